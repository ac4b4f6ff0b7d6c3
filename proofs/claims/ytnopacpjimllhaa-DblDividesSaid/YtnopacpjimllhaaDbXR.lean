import Derived.Test.YtnopacpjimllhaaDbXB
namespace Go.Proofs.Dbl
open Go Go.TX Go.Proofs
set_option maxRecDepth 100000
set_option linter.unusedVariables false
set_option maxHeartbeats 0
/-! f58 tenterhook/tenterhookref01.Bit -/
def ref_Bit_h0 : Hints := Hints.nil 0
theorem ref_Bit_h0_ok : ref_Bit_h0.OK Try.prog (bodyOf Try.f58) := Hints.nil_ok
abbrev ref_Bit_R : Type := (Int)
noncomputable def ref_Bit_t {γ : Type} (a0 : Int) (a1 : Int) (k : ref_Bit_R → Option γ) : Option γ := cond (decide (a1 < (0 : Int))) (k ((0 : Int))) (cond (decide (a1 > (63 : Int))) (k ((0 : Int))) (cond (decide (IntKind.wrap IntKind.u64 a1 < (0 : Int))) (none) (k (IntKind.wrap IntKind.i64 (ibits BinOp.and IntKind.u64 (Int.fdiv (IntKind.wrap IntKind.u64 a0) ((2 : Int) ^ min (Int.toNat (IntKind.wrap IntKind.u64 a1)) (64 : Nat))) (1 : Int))))))
noncomputable def ref_Bit (a0 : Int) (a1 : Int) : Option ref_Bit_R := ref_Bit_t a0 a1 some
theorem ref_Bit_t_eq {γ : Type} (a0 : Int) (a1 : Int) (k : ref_Bit_R → Option γ) : ref_Bit_t a0 a1 k = outOf (ref_Bit a0 a1) k := by
  delta ref_Bit ref_Bit_t; exact (Tr.nd Tr.lf (Tr.nd Tr.lf (Tr.nd Tr.no Tr.lf)))
noncomputable def ref_Bit_sp : TX.Spec := specD [.val (.int .i64), .val (.int .i64)] [] fun _ a m k => match a, m with | ⟨a0, a1, _⟩, _ => outOf (ref_Bit a0 a1) fun v => k (.lit (.int .i64 v)) []
theorem ref_Bit_ev {α : Type} (a0 : Int) (a1 : Int) (k : Kont α) : evFun Try.prog E7 (ref_Bit_h0) false Try.f58 (bodyOf Try.f58) 60 (mkS [.val (.int .i64), .val (.int .i64)] (a0, a1, ())) (mkH [] ()) k = outOf (ref_Bit a0 a1) fun v => k (.lit (.int .i64 v)) [] :=
  (show _ = ref_Bit_t a0 a1 (fun v => k (.lit (.int .i64 v)) []) from by kernel_rfl).trans (ref_Bit_t_eq a0 a1 _)
theorem ref_Bit_good : TX.Good Try.prog 58 ref_Bit_sp := good_form E7_ok mixed Try.func58 (body_of rfl) (by kernel_rfl) false fun α a m k r h => by
  obtain ⟨a0, a1, _⟩ := a; obtain _ := m
  exact ⟨ref_Bit_h0, 60, ref_Bit_h0_ok, rfl, (ref_Bit_ev a0 a1 k).trans h⟩
/-! f64 tenterhook/tenterhookref01.Make -/
def ref_Make_h0 : Hints := Hints.nil 0
theorem ref_Make_h0_ok : ref_Make_h0.OK Try.prog (bodyOf Try.f64) := Hints.nil_ok
def ref_Make_L1_A : List SD := [.val (.sl (.int .i64)), .any, .any, .val (.int .u64), .val (.int .i64), .any, .any, .any, .any, .any, .any, .any, .any, .any, .any, .any, .any, .any, .any, .any, .any, .any, .any, .any]
def ref_Make_L1_H : List HD := []
abbrev ref_Make_L1_D : Type := (List (Sh.Den (.int .i64))) × Int × Int
def ref_Make_L1_to (a : DenS ref_Make_L1_A) (m : DenH ref_Make_L1_H) : ref_Make_L1_D := (a.1, a.2.2.2.1, a.2.2.2.2.1)
def ref_Make_L1_ofA (d : ref_Make_L1_D) : DenS ref_Make_L1_A := match d with | (s0, s3, s4) => (s0, (), (), s3, s4, (), (), (), (), (), (), (), (), (), (), (), (), (), (), (), (), (), (), (), ())
def ref_Make_L1_ofH (d : ref_Make_L1_D) : DenH ref_Make_L1_H := match d with | (s0, s3, s4) => ()
def ref_Make_L1_N : Norm := (⟨[0, 3, 4], [], []⟩ : Norm)
def ref_Make_L1_X : Exit → Norm := fun e => match e with | .exit 0 => ⟨[3], [], []⟩ | _ => ⟨[], [], []⟩
abbrev ref_Make_L1_R : Type := (Int)
def ref_Make_L1_fin (v : ref_Make_L1_R) : Exit × St := ((.exit 0), ⟨[.any, .any, .any, .lit (.int .u64 v), .any, .any, .any, .any, .any, .any, .any, .any, .any, .any, .any, .any, .any, .any, .any, .any, .any, .any, .any, .any], []⟩)
noncomputable def ref_Make_L1_t {γ : Type} (s0 : (List (Sh.Den (.int .i64)))) (s3 : Int) (s4 : Int) (next : ref_Make_L1_D → Option γ) (out : ref_Make_L1_R → Option γ) : Option γ := cond (decide (s4 ≥ (0 : Int))) (cond (decide ((0 : Int) ≤ s4 ∧ s4 < (↑(List.length s0) : Int))) (next (s0, IntKind.wrap IntKind.u64 (IntKind.wrap IntKind.u64 (s3 * (2 : Int)) + IntKind.wrap IntKind.u64 (ibits BinOp.and IntKind.i64 (List.getD s0 (Int.toNat s4) (0 : Int)) (1 : Int))), IntKind.wrap IntKind.i64 (s4 - (1 : Int)))) (none)) (out (s3))
noncomputable def ref_Make_L1_pass (d : ref_Make_L1_D) : Option (ref_Make_L1_D ⊕ ref_Make_L1_R) := ref_Make_L1_t d.1 d.2.1 d.2.2 (fun d => some (.inl d)) (fun x => some (.inr x))
theorem ref_Make_L1_t_eq {γ : Type} (s0 : (List (Sh.Den (.int .i64)))) (s3 : Int) (s4 : Int) (next : ref_Make_L1_D → Option γ) (out : ref_Make_L1_R → Option γ) : ref_Make_L1_t s0 s3 s4 next out = PassOf (ref_Make_L1_t s0 s3 s4 (fun d => some (.inl d)) (fun x => some (.inr x))) next out := by
  delta ref_Make_L1_t; exact (Ps.nd (Ps.nd Ps.nx Ps.no) Ps.ou)
theorem ref_Make_L1_ev (α : Type) (d : ref_Make_L1_D) (next : ref_Make_L1_D → Option α) (k : Exit → St → Option α) : ev Try.prog E7 ref_Make_h0 60 [0, 0, 1, 0, 1, 1] ((codeAt (bodyOf Try.f64) [0, 0, 1, 0, 1, 1]).getD .skip) ⟨mkS ref_Make_L1_A (ref_Make_L1_ofA d), mkH ref_Make_L1_H (ref_Make_L1_ofH d)⟩ (passK 0 ref_Make_L1_N ref_Make_L1_A ref_Make_L1_H ref_Make_L1_X (fun a m => next (ref_Make_L1_to a m)) k) = PassOf (ref_Make_L1_pass d) next fun x => k (ref_Make_L1_fin x).1 (ref_Make_L1_fin x).2 := by
  obtain ⟨s0, s3, s4⟩ := d
  exact (show _ = ref_Make_L1_t s0 s3 s4 next (fun x => k (ref_Make_L1_fin x).1 (ref_Make_L1_fin x).2) from by kernel_rfl).trans (ref_Make_L1_t_eq s0 s3 s4 _ _)
noncomputable def ref_Make_L1 (d : ref_Make_L1_D) : Option ref_Make_L1_R := runs ref_Make_L1_pass d
noncomputable def ref_Make_L1_sp : CSpec := fun _ st k => reNorm 0 ref_Make_L1_N ref_Make_L1_A ref_Make_L1_H st fun a m => outOf (ref_Make_L1 (ref_Make_L1_to a m)) fun v => k (.exit 0) ⟨[.any, .any, .any, .lit (.int .u64 v), .any, .any, .any, .any, .any, .any, .any, .any, .any, .any, .any, .any, .any, .any, .any, .any, .any, .any, .any, .any], []⟩
theorem ref_Make_L1_ok : SumOK Try.prog 0 (.loop ((codeAt (bodyOf Try.f64) [0, 0, 1, 0, 1, 1]).getD .skip)) ref_Make_L1_sp := (SumOK.loop E7_ok mixed ref_Make_h0_ok (show codeAt (bodyOf Try.f64) [0, 1, 0, 1, 1] = some (.loop ((codeAt (bodyOf Try.f64) [0, 0, 1, 0, 1, 1]).getD .skip)) from by kernel_rfl) (N := ref_Make_L1_N) (Nx := ref_Make_L1_X) (A := ref_Make_L1_A) (Hs := ref_Make_L1_H) (toD := ref_Make_L1_to) (ofA := ref_Make_L1_ofA) (ofH := ref_Make_L1_ofH) (fun _ _ => rfl) (fun _ _ => rfl) (pass := ref_Make_L1_pass) (fin := ref_Make_L1_fin) 60 ref_Make_L1_ev (steps ref_Make_L1_pass)).mono fun α st k r h => by
  refine Eq.trans (congrArg (reNorm 0 ref_Make_L1_N ref_Make_L1_A ref_Make_L1_H st) ?_) h
  funext a m
  exact outOf_congr fun x => rfl
noncomputable def ref_Make_L1_h : Hints := ref_Make_h0.add [0, 1, 0, 1, 1] ref_Make_L1_sp
theorem ref_Make_L1_h_ok : ref_Make_L1_h.OK Try.prog (bodyOf Try.f64) := ref_Make_h0_ok.add (show codeAt (bodyOf Try.f64) [0, 1, 0, 1, 1] = some (.loop ((codeAt (bodyOf Try.f64) [0, 0, 1, 0, 1, 1]).getD .skip)) from by kernel_rfl) ref_Make_L1_ok
abbrev ref_Make_R : Type := (Int)
noncomputable def ref_Make_t {γ : Type} (a0 : (List (Sh.Den (.int .i64)))) (k : ref_Make_R → Option γ) : Option γ := outOf (ref_Make_L1 (a0, (0 : Int), IntKind.wrap IntKind.i64 ((if (64 : Int) < (↑(List.length a0) : Int) then (64 : Int) else (↑(List.length a0) : Int)) - (1 : Int)))) fun (x1 : Int) => k (IntKind.wrap IntKind.i64 x1)
noncomputable def ref_Make (a0 : (List (Sh.Den (.int .i64)))) : Option ref_Make_R := ref_Make_t a0 some
theorem ref_Make_t_eq {γ : Type} (a0 : (List (Sh.Den (.int .i64)))) (k : ref_Make_R → Option γ) : ref_Make_t a0 k = outOf (ref_Make a0) k := by
  delta ref_Make ref_Make_t; exact (Tr.bd fun x1 => Tr.lf)
noncomputable def ref_Make_sp : TX.Spec := specD [.val (.sl (.int .i64))] [] fun _ a m k => match a, m with | ⟨a0, _⟩, _ => outOf (ref_Make a0) fun v => k (.lit (.int .i64 v)) []
theorem ref_Make_ev {α : Type} (a0 : (List (Sh.Den (.int .i64)))) (k : Kont α) : evFun Try.prog E7 (ref_Make_L1_h) false Try.f64 (bodyOf Try.f64) 60 (mkS [.val (.sl (.int .i64))] (a0, ())) (mkH [] ()) k = outOf (ref_Make a0) fun v => k (.lit (.int .i64 v)) [] :=
  (show _ = ref_Make_t a0 (fun v => k (.lit (.int .i64 v)) []) from by kernel_rfl).trans (ref_Make_t_eq a0 _)
theorem ref_Make_good : TX.Good Try.prog 64 ref_Make_sp := good_form E7_ok mixed Try.func64 (body_of rfl) (by kernel_rfl) false fun α a m k r h => by
  obtain ⟨a0, _⟩ := a; obtain _ := m
  exact ⟨ref_Make_L1_h, 60, ref_Make_L1_h_ok, rfl, (ref_Make_ev a0 k).trans h⟩
/-! f28 tenterhook/tenterhookref02.Of -/
def ref_Of_h0 : Hints := Hints.nil 0
theorem ref_Of_h0_ok : ref_Of_h0.OK Try.prog (bodyOf Try.f28) := Hints.nil_ok
abbrev ref_Of_R : Type := (Int × Int)
noncomputable def ref_Of_t {γ : Type} (a0 : Int) (k : ref_Of_R → Option γ) : Option γ := cond (decide (a0 < (0 : Int))) (k (a0, (-1 : Int))) (k (a0, (0 : Int)))
noncomputable def ref_Of (a0 : Int) : Option ref_Of_R := ref_Of_t a0 some
theorem ref_Of_t_eq {γ : Type} (a0 : Int) (k : ref_Of_R → Option γ) : ref_Of_t a0 k = outOf (ref_Of a0) k := by
  delta ref_Of ref_Of_t; exact (Tr.nd Tr.lf Tr.lf)
noncomputable def ref_Of_sp : TX.Spec := specD [.val (.int .i64)] [] fun _ a m k => match a, m with | ⟨a0, _⟩, _ => outOf (ref_Of a0) fun v => k (.agg [.lit (.int .i64 v.1), .lit (.int .i64 v.2)]) []
theorem ref_Of_ev {α : Type} (a0 : Int) (k : Kont α) : evFun Try.prog E7 (ref_Of_h0) false Try.f28 (bodyOf Try.f28) 60 (mkS [.val (.int .i64)] (a0, ())) (mkH [] ()) k = outOf (ref_Of a0) fun v => k (.agg [.lit (.int .i64 v.1), .lit (.int .i64 v.2)]) [] :=
  (show _ = ref_Of_t a0 (fun v => k (.agg [.lit (.int .i64 v.1), .lit (.int .i64 v.2)]) []) from by kernel_rfl).trans (ref_Of_t_eq a0 _)
theorem ref_Of_good : TX.Good Try.prog 28 ref_Of_sp := good_form E7_ok mixed Try.func28 (body_of rfl) (by kernel_rfl) false fun α a m k r h => by
  obtain ⟨a0, _⟩ := a; obtain _ := m
  exact ⟨ref_Of_h0, 60, ref_Of_h0_ok, rfl, (ref_Of_ev a0 k).trans h⟩
noncomputable def R1 : Env := E7.add 58 true ref_Bit_sp |>.add 64 true ref_Make_sp |>.add 28 true ref_Of_sp
theorem R1_ok : R1.OK Try.prog := ((E7_ok.add_ok ref_Bit_good).add_ok ref_Make_good).add_ok ref_Of_good
/-! f54 tenterhook/tenterhookref02.bits -/
def ref_bits_h0 : Hints := Hints.nil 0
theorem ref_bits_h0_ok : ref_bits_h0.OK Try.prog (bodyOf Try.f54) := Hints.nil_ok
def ref_bits_L1_A : List SD := [.any, .loc 0 0 0, .any, .rowz 1, .val (.int .i64), .any, .any, .any, .any, .any, .any, .any, .any, .any, .any, .any, .any, .any, .any, .any, .any, .any, .any, .any, .any, .any, .any, .any, .any]
def ref_bits_L1_H : List HD := [.box [.val (.int .i64), .val (.int .i64)], .row (.int .i64)]
abbrev ref_bits_L1_D : Type := Nat × Int × Int × Int × (List (Sh.Den (.int .i64)))
def ref_bits_L1_to (a : DenS ref_bits_L1_A) (m : DenH ref_bits_L1_H) : ref_bits_L1_D := (a.2.2.2.1, a.2.2.2.2.1, m.1.1, m.1.2.1, m.2.1)
def ref_bits_L1_ofA (d : ref_bits_L1_D) : DenS ref_bits_L1_A := match d with | (s3_n, s4, m0_0, m0_1, m1) => ((), (), (), s3_n, s4, (), (), (), (), (), (), (), (), (), (), (), (), (), (), (), (), (), (), (), (), (), (), (), (), ())
def ref_bits_L1_ofH (d : ref_bits_L1_D) : DenH ref_bits_L1_H := match d with | (s3_n, s4, m0_0, m0_1, m1) => ((m0_0, m0_1, ()), m1, ())
def ref_bits_L1_N : Norm := (⟨[1, 3, 4], [3], []⟩ : Norm)
def ref_bits_L1_X : Exit → Norm := fun e => match e with | .exit 0 => ⟨[1, 3], [], []⟩ | _ => ⟨[], [], []⟩
abbrev ref_bits_L1_R : Type := (Nat × Int × Int × (List Int))
def ref_bits_L1_fin (v : ref_bits_L1_R) : Exit × St := ((.exit 0), ⟨[.any, .ptr 0 0 0, .any, .msl 1 0 v.1, .any, .any, .any, .any, .any, .any, .any, .any, .any, .any, .any, .any, .any, .any, .any, .any, .any, .any, .any, .any, .any, .any, .any, .any, .any], [.box [.lit (.int .i64 v.2.1), .lit (.int .i64 v.2.2.1)], .row (.int .i64) v.2.2.2]⟩)
noncomputable def ref_bits_L1_t {γ : Type} (s3_n : Nat) (s4 : Int) (m0_0 : Int) (m0_1 : Int) (m1 : (List (Sh.Den (.int .i64)))) (next : ref_bits_L1_D → Option γ) (out : ref_bits_L1_R → Option γ) : Option γ := cond (decide (s4 < (64 : Int))) (outOf (ref_Bit m0_0 s4) fun (x1 : Int) => cond (decide (s3_n + List.length [x1] ≤ (2147483648 : Nat))) (next (s3_n + List.length [x1], IntKind.wrap IntKind.i64 (s4 + (1 : Int)), m0_0, m0_1, List.take s3_n (List.drop (0 : Nat) m1) ++ [x1])) (none)) (out (s3_n, m0_0, m0_1, m1))
noncomputable def ref_bits_L1_pass (d : ref_bits_L1_D) : Option (ref_bits_L1_D ⊕ ref_bits_L1_R) := ref_bits_L1_t d.1 d.2.1 d.2.2.1 d.2.2.2.1 d.2.2.2.2 (fun d => some (.inl d)) (fun x => some (.inr x))
theorem ref_bits_L1_t_eq {γ : Type} (s3_n : Nat) (s4 : Int) (m0_0 : Int) (m0_1 : Int) (m1 : (List (Sh.Den (.int .i64)))) (next : ref_bits_L1_D → Option γ) (out : ref_bits_L1_R → Option γ) : ref_bits_L1_t s3_n s4 m0_0 m0_1 m1 next out = PassOf (ref_bits_L1_t s3_n s4 m0_0 m0_1 m1 (fun d => some (.inl d)) (fun x => some (.inr x))) next out := by
  delta ref_bits_L1_t; exact (Ps.nd (Ps.bd fun x1 => (Ps.nd Ps.nx Ps.no)) Ps.ou)
theorem ref_bits_L1_ev (α : Type) (d : ref_bits_L1_D) (next : ref_bits_L1_D → Option α) (k : Exit → St → Option α) : ev Try.prog R1 ref_bits_h0 60 [0, 0, 1, 0, 1, 1] ((codeAt (bodyOf Try.f54) [0, 0, 1, 0, 1, 1]).getD .skip) ⟨mkS ref_bits_L1_A (ref_bits_L1_ofA d), mkH ref_bits_L1_H (ref_bits_L1_ofH d)⟩ (passK 0 ref_bits_L1_N ref_bits_L1_A ref_bits_L1_H ref_bits_L1_X (fun a m => next (ref_bits_L1_to a m)) k) = PassOf (ref_bits_L1_pass d) next fun x => k (ref_bits_L1_fin x).1 (ref_bits_L1_fin x).2 := by
  obtain ⟨s3_n, s4, m0_0, m0_1, m1⟩ := d
  exact (show _ = ref_bits_L1_t s3_n s4 m0_0 m0_1 m1 next (fun x => k (ref_bits_L1_fin x).1 (ref_bits_L1_fin x).2) from by kernel_rfl).trans (ref_bits_L1_t_eq s3_n s4 m0_0 m0_1 m1 _ _)
noncomputable def ref_bits_L1 (d : ref_bits_L1_D) : Option ref_bits_L1_R := runs ref_bits_L1_pass d
noncomputable def ref_bits_L1_sp : CSpec := fun _ st k => reNorm 0 ref_bits_L1_N ref_bits_L1_A ref_bits_L1_H st fun a m => outOf (ref_bits_L1 (ref_bits_L1_to a m)) fun v => k (.exit 0) ⟨[.any, .ptr 0 0 0, .any, .msl 1 0 v.1, .any, .any, .any, .any, .any, .any, .any, .any, .any, .any, .any, .any, .any, .any, .any, .any, .any, .any, .any, .any, .any, .any, .any, .any, .any], [.box [.lit (.int .i64 v.2.1), .lit (.int .i64 v.2.2.1)], .row (.int .i64) v.2.2.2]⟩
theorem ref_bits_L1_ok : SumOK Try.prog 0 (.loop ((codeAt (bodyOf Try.f54) [0, 0, 1, 0, 1, 1]).getD .skip)) ref_bits_L1_sp := (SumOK.loop R1_ok mixed ref_bits_h0_ok (show codeAt (bodyOf Try.f54) [0, 1, 0, 1, 1] = some (.loop ((codeAt (bodyOf Try.f54) [0, 0, 1, 0, 1, 1]).getD .skip)) from by kernel_rfl) (N := ref_bits_L1_N) (Nx := ref_bits_L1_X) (A := ref_bits_L1_A) (Hs := ref_bits_L1_H) (toD := ref_bits_L1_to) (ofA := ref_bits_L1_ofA) (ofH := ref_bits_L1_ofH) (fun _ _ => rfl) (fun _ _ => rfl) (pass := ref_bits_L1_pass) (fin := ref_bits_L1_fin) 60 ref_bits_L1_ev (steps ref_bits_L1_pass)).mono fun α st k r h => by
  refine Eq.trans (congrArg (reNorm 0 ref_bits_L1_N ref_bits_L1_A ref_bits_L1_H st) ?_) h
  funext a m
  exact outOf_congr fun x => rfl
noncomputable def ref_bits_L1_h : Hints := ref_bits_h0.add [0, 1, 0, 1, 1] ref_bits_L1_sp
theorem ref_bits_L1_h_ok : ref_bits_L1_h.OK Try.prog (bodyOf Try.f54) := ref_bits_h0_ok.add (show codeAt (bodyOf Try.f54) [0, 1, 0, 1, 1] = some (.loop ((codeAt (bodyOf Try.f54) [0, 0, 1, 0, 1, 1]).getD .skip)) from by kernel_rfl) ref_bits_L1_ok
def ref_bits_L2_A : List SD := [.any, .loc 0 0 0, .any, .rowz 1, .any, .val (.int .i64), .any, .any, .any, .any, .any, .any, .any, .any, .any, .any, .any, .any, .any, .any, .any, .any, .any, .any, .any, .any, .any, .any, .any]
def ref_bits_L2_H : List HD := [.box [.val (.int .i64), .val (.int .i64)], .row (.int .i64)]
abbrev ref_bits_L2_D : Type := Nat × Int × Int × Int × (List (Sh.Den (.int .i64)))
def ref_bits_L2_to (a : DenS ref_bits_L2_A) (m : DenH ref_bits_L2_H) : ref_bits_L2_D := (a.2.2.2.1, a.2.2.2.2.2.1, m.1.1, m.1.2.1, m.2.1)
def ref_bits_L2_ofA (d : ref_bits_L2_D) : DenS ref_bits_L2_A := match d with | (s3_n, s5, m0_0, m0_1, m1) => ((), (), (), s3_n, (), s5, (), (), (), (), (), (), (), (), (), (), (), (), (), (), (), (), (), (), (), (), (), (), (), ())
def ref_bits_L2_ofH (d : ref_bits_L2_D) : DenH ref_bits_L2_H := match d with | (s3_n, s5, m0_0, m0_1, m1) => ((m0_0, m0_1, ()), m1, ())
def ref_bits_L2_N : Norm := (⟨[1, 3, 5], [], []⟩ : Norm)
def ref_bits_L2_X : Exit → Norm := fun e => match e with | .exit 2 => ⟨[3], [], []⟩ | _ => ⟨[], [], []⟩
abbrev ref_bits_L2_R : Type := (Nat × (List Int))
def ref_bits_L2_fin (v : ref_bits_L2_R) : Exit × St := ((.exit 2), ⟨[.any, .any, .any, .msl 0 0 v.1, .any, .any, .any, .any, .any, .any, .any, .any, .any, .any, .any, .any, .any, .any, .any, .any, .any, .any, .any, .any, .any, .any, .any, .any, .any], [.row (.int .i64) v.2]⟩)
noncomputable def ref_bits_L2_t {γ : Type} (s3_n : Nat) (s5 : Int) (m0_0 : Int) (m0_1 : Int) (m1 : (List (Sh.Den (.int .i64)))) (next : ref_bits_L2_D → Option γ) (out : ref_bits_L2_R → Option γ) : Option γ := cond (decide (s5 < (64 : Int))) (outOf (ref_Bit m0_1 s5) fun (x2 : Int) => cond (decide (s3_n + List.length [x2] ≤ (2147483648 : Nat))) (next (s3_n + List.length [x2], IntKind.wrap IntKind.i64 (s5 + (1 : Int)), m0_0, m0_1, List.take s3_n (List.drop (0 : Nat) m1) ++ [x2])) (none)) (out (s3_n, m1))
noncomputable def ref_bits_L2_pass (d : ref_bits_L2_D) : Option (ref_bits_L2_D ⊕ ref_bits_L2_R) := ref_bits_L2_t d.1 d.2.1 d.2.2.1 d.2.2.2.1 d.2.2.2.2 (fun d => some (.inl d)) (fun x => some (.inr x))
theorem ref_bits_L2_t_eq {γ : Type} (s3_n : Nat) (s5 : Int) (m0_0 : Int) (m0_1 : Int) (m1 : (List (Sh.Den (.int .i64)))) (next : ref_bits_L2_D → Option γ) (out : ref_bits_L2_R → Option γ) : ref_bits_L2_t s3_n s5 m0_0 m0_1 m1 next out = PassOf (ref_bits_L2_t s3_n s5 m0_0 m0_1 m1 (fun d => some (.inl d)) (fun x => some (.inr x))) next out := by
  delta ref_bits_L2_t; exact (Ps.nd (Ps.bd fun x2 => (Ps.nd Ps.nx Ps.no)) Ps.ou)
theorem ref_bits_L2_ev (α : Type) (d : ref_bits_L2_D) (next : ref_bits_L2_D → Option α) (k : Exit → St → Option α) : ev Try.prog R1 ref_bits_L1_h 60 [0, 0, 1, 0, 1, 1, 1] ((codeAt (bodyOf Try.f54) [0, 0, 1, 0, 1, 1, 1]).getD .skip) ⟨mkS ref_bits_L2_A (ref_bits_L2_ofA d), mkH ref_bits_L2_H (ref_bits_L2_ofH d)⟩ (passK 0 ref_bits_L2_N ref_bits_L2_A ref_bits_L2_H ref_bits_L2_X (fun a m => next (ref_bits_L2_to a m)) k) = PassOf (ref_bits_L2_pass d) next fun x => k (ref_bits_L2_fin x).1 (ref_bits_L2_fin x).2 := by
  obtain ⟨s3_n, s5, m0_0, m0_1, m1⟩ := d
  exact (show _ = ref_bits_L2_t s3_n s5 m0_0 m0_1 m1 next (fun x => k (ref_bits_L2_fin x).1 (ref_bits_L2_fin x).2) from by kernel_rfl).trans (ref_bits_L2_t_eq s3_n s5 m0_0 m0_1 m1 _ _)
noncomputable def ref_bits_L2 (d : ref_bits_L2_D) : Option ref_bits_L2_R := runs ref_bits_L2_pass d
noncomputable def ref_bits_L2_sp : CSpec := fun _ st k => reNorm 0 ref_bits_L2_N ref_bits_L2_A ref_bits_L2_H st fun a m => outOf (ref_bits_L2 (ref_bits_L2_to a m)) fun v => k (.exit 2) ⟨[.any, .any, .any, .msl 0 0 v.1, .any, .any, .any, .any, .any, .any, .any, .any, .any, .any, .any, .any, .any, .any, .any, .any, .any, .any, .any, .any, .any, .any, .any, .any, .any], [.row (.int .i64) v.2]⟩
theorem ref_bits_L2_ok : SumOK Try.prog 0 (.loop ((codeAt (bodyOf Try.f54) [0, 0, 1, 0, 1, 1, 1]).getD .skip)) ref_bits_L2_sp := (SumOK.loop R1_ok mixed ref_bits_L1_h_ok (show codeAt (bodyOf Try.f54) [0, 1, 0, 1, 1, 1] = some (.loop ((codeAt (bodyOf Try.f54) [0, 0, 1, 0, 1, 1, 1]).getD .skip)) from by kernel_rfl) (N := ref_bits_L2_N) (Nx := ref_bits_L2_X) (A := ref_bits_L2_A) (Hs := ref_bits_L2_H) (toD := ref_bits_L2_to) (ofA := ref_bits_L2_ofA) (ofH := ref_bits_L2_ofH) (fun _ _ => rfl) (fun _ _ => rfl) (pass := ref_bits_L2_pass) (fin := ref_bits_L2_fin) 60 ref_bits_L2_ev (steps ref_bits_L2_pass)).mono fun α st k r h => by
  refine Eq.trans (congrArg (reNorm 0 ref_bits_L2_N ref_bits_L2_A ref_bits_L2_H st) ?_) h
  funext a m
  exact outOf_congr fun x => rfl
noncomputable def ref_bits_L2_h : Hints := ref_bits_L1_h.add [0, 1, 0, 1, 1, 1] ref_bits_L2_sp
theorem ref_bits_L2_h_ok : ref_bits_L2_h.OK Try.prog (bodyOf Try.f54) := ref_bits_L1_h_ok.add (show codeAt (bodyOf Try.f54) [0, 1, 0, 1, 1, 1] = some (.loop ((codeAt (bodyOf Try.f54) [0, 0, 1, 0, 1, 1, 1]).getD .skip)) from by kernel_rfl) ref_bits_L2_ok
abbrev ref_bits_R : Type := ((List Int))
noncomputable def ref_bits_t {γ : Type} (a0_0 : Int) (a0_1 : Int) (k : ref_bits_R → Option γ) : Option γ := outOf (ref_bits_L1 ((0 : Nat), (0 : Int), a0_0, a0_1, [])) fun (x3 : (Nat × (Int × (Int × (List Int))))) => outOf (ref_bits_L2 (Prod.fst x3, (0 : Int), Prod.fst (Prod.snd x3), Prod.fst (Prod.snd (Prod.snd x3)), Prod.snd (Prod.snd (Prod.snd x3)))) fun (x4 : (Nat × (List Int))) => k (List.take (Prod.fst x4) (List.drop (0 : Nat) (Prod.snd x4)))
noncomputable def ref_bits (a0_0 : Int) (a0_1 : Int) : Option ref_bits_R := ref_bits_t a0_0 a0_1 some
theorem ref_bits_t_eq {γ : Type} (a0_0 : Int) (a0_1 : Int) (k : ref_bits_R → Option γ) : ref_bits_t a0_0 a0_1 k = outOf (ref_bits a0_0 a0_1) k := by
  delta ref_bits ref_bits_t; exact (Tr.bd fun x3 => (Tr.bd fun x4 => Tr.lf))
noncomputable def ref_bits_sp : TX.Spec := specD [.agg (.pair (.int .i64) (.int .i64))] [] fun _ a m k => match a, m with | ⟨⟨a0_0, a0_1⟩, _⟩, _ => outOf (ref_bits a0_0 a0_1) fun v => k (.sl (.int .i64) v false) []
theorem ref_bits_ev {α : Type} (a0_0 : Int) (a0_1 : Int) (k : Kont α) : evFun Try.prog R1 (ref_bits_L2_h) false Try.f54 (bodyOf Try.f54) 60 (mkS [.agg (.pair (.int .i64) (.int .i64))] ((a0_0, a0_1), ())) (mkH [] ()) k = outOf (ref_bits a0_0 a0_1) fun v => k (.sl (.int .i64) v false) [] :=
  (show _ = ref_bits_t a0_0 a0_1 (fun v => k (.sl (.int .i64) v false) []) from by kernel_rfl).trans (ref_bits_t_eq a0_0 a0_1 _)
theorem ref_bits_good : TX.Good Try.prog 54 ref_bits_sp := good_form R1_ok mixed Try.func54 (body_of rfl) (by kernel_rfl) false fun α a m k r h => by
  obtain ⟨⟨a0_0, a0_1⟩, _⟩ := a; obtain _ := m
  exact ⟨ref_bits_L2_h, 60, ref_bits_L2_h_ok, rfl, (ref_bits_ev a0_0 a0_1 k).trans h⟩
/-! f55 tenterhook/tenterhookref02.make2 -/
def ref_make2_h0 : Hints := Hints.nil 0
theorem ref_make2_h0_ok : ref_make2_h0.OK Try.prog (bodyOf Try.f55) := Hints.nil_ok
abbrev ref_make2_R : Type := (Int × Int)
noncomputable def ref_make2_t {γ : Type} (a0 : (List (Sh.Den (.int .i64)))) (k : ref_make2_R → Option γ) : Option γ := cond (decide ((0 : Int) ≤ (0 : Int) ∧ (0 : Int) ≤ (64 : Int) ∧ (64 : Int) ≤ (↑(List.length a0) : Int))) (outOf (ref_Make (List.take (64 : Nat) (List.drop (0 : Nat) a0))) fun (x1 : Int) => cond (decide ((0 : Int) ≤ (64 : Int) ∧ (64 : Int) ≤ (128 : Int) ∧ (128 : Int) ≤ (↑(List.length a0) : Int))) (outOf (ref_Make (List.take (64 : Nat) (List.drop (64 : Nat) a0))) fun (x2 : Int) => k (x1, x2)) (none)) (none)
noncomputable def ref_make2 (a0 : (List (Sh.Den (.int .i64)))) : Option ref_make2_R := ref_make2_t a0 some
theorem ref_make2_t_eq {γ : Type} (a0 : (List (Sh.Den (.int .i64)))) (k : ref_make2_R → Option γ) : ref_make2_t a0 k = outOf (ref_make2 a0) k := by
  delta ref_make2 ref_make2_t; exact (Tr.nd (Tr.bd fun x1 => (Tr.nd (Tr.bd fun x2 => Tr.lf) Tr.no)) Tr.no)
noncomputable def ref_make2_sp : TX.Spec := specD [.val (.sl (.int .i64))] [] fun _ a m k => match a, m with | ⟨a0, _⟩, _ => outOf (ref_make2 a0) fun v => k (.agg [.lit (.int .i64 v.1), .lit (.int .i64 v.2)]) []
theorem ref_make2_ev {α : Type} (a0 : (List (Sh.Den (.int .i64)))) (k : Kont α) : evFun Try.prog R1 (ref_make2_h0) false Try.f55 (bodyOf Try.f55) 60 (mkS [.val (.sl (.int .i64))] (a0, ())) (mkH [] ()) k = outOf (ref_make2 a0) fun v => k (.agg [.lit (.int .i64 v.1), .lit (.int .i64 v.2)]) [] :=
  (show _ = ref_make2_t a0 (fun v => k (.agg [.lit (.int .i64 v.1), .lit (.int .i64 v.2)]) []) from by kernel_rfl).trans (ref_make2_t_eq a0 _)
theorem ref_make2_good : TX.Good Try.prog 55 ref_make2_sp := good_form R1_ok mixed Try.func55 (body_of rfl) (by kernel_rfl) false fun α a m k r h => by
  obtain ⟨a0, _⟩ := a; obtain _ := m
  exact ⟨ref_make2_h0, 60, ref_make2_h0_ok, rfl, (ref_make2_ev a0 k).trans h⟩
/-! f56 tenterhook/tenterhookref01.Ult -/
def ref_Ult_h0 : Hints := Hints.nil 0
theorem ref_Ult_h0_ok : ref_Ult_h0.OK Try.prog (bodyOf Try.f56) := Hints.nil_ok
def ref_Ult_L1_A : List SD := [.val (.int .i64), .val (.int .i64), .any, .any, .any, .val (.int .i64), .any, .any, .any, .any, .any, .any, .any, .any, .any, .any, .any, .any, .any, .any, .any]
def ref_Ult_L1_H : List HD := []
abbrev ref_Ult_L1_D : Type := Int × Int × Int
def ref_Ult_L1_to (a : DenS ref_Ult_L1_A) (m : DenH ref_Ult_L1_H) : ref_Ult_L1_D := (a.1, a.2.1, a.2.2.2.2.2.1)
def ref_Ult_L1_ofA (d : ref_Ult_L1_D) : DenS ref_Ult_L1_A := match d with | (s0, s1, s5) => (s0, s1, (), (), (), s5, (), (), (), (), (), (), (), (), (), (), (), (), (), (), (), ())
def ref_Ult_L1_ofH (d : ref_Ult_L1_D) : DenH ref_Ult_L1_H := match d with | (s0, s1, s5) => ()
def ref_Ult_L1_N : Norm := (⟨[0, 1, 5], [], []⟩ : Norm)
def ref_Ult_L1_X : Exit → Norm := fun e => match e with | .exit 0 => ⟨[], [], []⟩ | .ret => ⟨[4], [], []⟩ | _ => ⟨[], [], []⟩
abbrev ref_Ult_L1_R : Type := ((Bool) ⊕ (Unit))
def ref_Ult_L1_fin (v : ref_Ult_L1_R) : Exit × St := sumOf v (fun v => (.ret, ⟨[.any, .any, .any, .any, .lit (.bool v), .any, .any, .any, .any, .any, .any, .any, .any, .any, .any, .any, .any, .any, .any, .any, .any], []⟩)) (fun v => ((.exit 0), ⟨[.any, .any, .any, .any, .any, .any, .any, .any, .any, .any, .any, .any, .any, .any, .any, .any, .any, .any, .any, .any, .any], []⟩))
noncomputable def ref_Ult_L1_t {γ : Type} (s0 : Int) (s1 : Int) (s5 : Int) (next : ref_Ult_L1_D → Option γ) (out : ref_Ult_L1_R → Option γ) : Option γ := cond (decide (s5 ≥ (0 : Int))) (outOf (ref_Bit s0 s5) fun (x1 : Int) => outOf (ref_Bit s1 s5) fun (x2 : Int) => cond (x1 != x2) (outOf (ref_Bit s1 s5) fun (x3 : Int) => out (.inl (x3 == (1 : Int)))) (next (s0, s1, IntKind.wrap IntKind.i64 (s5 - (1 : Int))))) (out (.inr ()))
noncomputable def ref_Ult_L1_pass (d : ref_Ult_L1_D) : Option (ref_Ult_L1_D ⊕ ref_Ult_L1_R) := ref_Ult_L1_t d.1 d.2.1 d.2.2 (fun d => some (.inl d)) (fun x => some (.inr x))
theorem ref_Ult_L1_t_eq {γ : Type} (s0 : Int) (s1 : Int) (s5 : Int) (next : ref_Ult_L1_D → Option γ) (out : ref_Ult_L1_R → Option γ) : ref_Ult_L1_t s0 s1 s5 next out = PassOf (ref_Ult_L1_t s0 s1 s5 (fun d => some (.inl d)) (fun x => some (.inr x))) next out := by
  delta ref_Ult_L1_t; exact (Ps.nd (Ps.bd fun x1 => (Ps.bd fun x2 => (Ps.nd (Ps.bd fun x3 => Ps.ou) Ps.nx))) Ps.ou)
theorem ref_Ult_L1_ev (α : Type) (d : ref_Ult_L1_D) (next : ref_Ult_L1_D → Option α) (k : Exit → St → Option α) : ev Try.prog R1 ref_Ult_h0 60 [0, 0, 1, 0, 1] ((codeAt (bodyOf Try.f56) [0, 0, 1, 0, 1]).getD .skip) ⟨mkS ref_Ult_L1_A (ref_Ult_L1_ofA d), mkH ref_Ult_L1_H (ref_Ult_L1_ofH d)⟩ (passK 0 ref_Ult_L1_N ref_Ult_L1_A ref_Ult_L1_H ref_Ult_L1_X (fun a m => next (ref_Ult_L1_to a m)) k) = PassOf (ref_Ult_L1_pass d) next fun x => k (ref_Ult_L1_fin x).1 (ref_Ult_L1_fin x).2 := by
  obtain ⟨s0, s1, s5⟩ := d
  exact (show _ = ref_Ult_L1_t s0 s1 s5 next (fun x => k (ref_Ult_L1_fin x).1 (ref_Ult_L1_fin x).2) from by kernel_rfl).trans (ref_Ult_L1_t_eq s0 s1 s5 _ _)
noncomputable def ref_Ult_L1 (d : ref_Ult_L1_D) : Option ref_Ult_L1_R := runs ref_Ult_L1_pass d
noncomputable def ref_Ult_L1_sp : CSpec := fun _ st k => reNorm 0 ref_Ult_L1_N ref_Ult_L1_A ref_Ult_L1_H st fun a m => outOf (ref_Ult_L1 (ref_Ult_L1_to a m)) fun v => sumOf v (fun v => k .ret ⟨[.any, .any, .any, .any, .lit (.bool v), .any, .any, .any, .any, .any, .any, .any, .any, .any, .any, .any, .any, .any, .any, .any, .any], []⟩) (fun v => k (.exit 0) ⟨[.any, .any, .any, .any, .any, .any, .any, .any, .any, .any, .any, .any, .any, .any, .any, .any, .any, .any, .any, .any, .any], []⟩)
theorem ref_Ult_L1_ok : SumOK Try.prog 0 (.loop ((codeAt (bodyOf Try.f56) [0, 0, 1, 0, 1]).getD .skip)) ref_Ult_L1_sp := (SumOK.loop R1_ok mixed ref_Ult_h0_ok (show codeAt (bodyOf Try.f56) [0, 1, 0, 1] = some (.loop ((codeAt (bodyOf Try.f56) [0, 0, 1, 0, 1]).getD .skip)) from by kernel_rfl) (N := ref_Ult_L1_N) (Nx := ref_Ult_L1_X) (A := ref_Ult_L1_A) (Hs := ref_Ult_L1_H) (toD := ref_Ult_L1_to) (ofA := ref_Ult_L1_ofA) (ofH := ref_Ult_L1_ofH) (fun _ _ => rfl) (fun _ _ => rfl) (pass := ref_Ult_L1_pass) (fin := ref_Ult_L1_fin) 60 ref_Ult_L1_ev (steps ref_Ult_L1_pass)).mono fun α st k r h => by
  refine Eq.trans (congrArg (reNorm 0 ref_Ult_L1_N ref_Ult_L1_A ref_Ult_L1_H st) ?_) h
  funext a m
  exact outOf_congr fun x => by rcases x with x | x <;> rfl
noncomputable def ref_Ult_L1_h : Hints := ref_Ult_h0.add [0, 1, 0, 1] ref_Ult_L1_sp
theorem ref_Ult_L1_h_ok : ref_Ult_L1_h.OK Try.prog (bodyOf Try.f56) := ref_Ult_h0_ok.add (show codeAt (bodyOf Try.f56) [0, 1, 0, 1] = some (.loop ((codeAt (bodyOf Try.f56) [0, 0, 1, 0, 1]).getD .skip)) from by kernel_rfl) ref_Ult_L1_ok
abbrev ref_Ult_R : Type := (Bool)
noncomputable def ref_Ult_t {γ : Type} (a0 : Int) (a1 : Int) (k : ref_Ult_R → Option γ) : Option γ := outOf (ref_Ult_L1 (a0, a1, (63 : Int))) fun (x4 : Bool ⊕ Unit) => sumOf x4 (fun x5 => k (x5)) (fun x6 => k (false))
noncomputable def ref_Ult (a0 : Int) (a1 : Int) : Option ref_Ult_R := ref_Ult_t a0 a1 some
theorem ref_Ult_t_eq {γ : Type} (a0 : Int) (a1 : Int) (k : ref_Ult_R → Option γ) : ref_Ult_t a0 a1 k = outOf (ref_Ult a0 a1) k := by
  delta ref_Ult ref_Ult_t; exact (Tr.bd fun x4 => (Tr.cs (fun x5 => Tr.lf) (fun x6 => Tr.lf)))
noncomputable def ref_Ult_sp : TX.Spec := specD [.val (.int .i64), .val (.int .i64)] [] fun _ a m k => match a, m with | ⟨a0, a1, _⟩, _ => outOf (ref_Ult a0 a1) fun v => k (.lit (.bool v)) []
theorem ref_Ult_ev {α : Type} (a0 : Int) (a1 : Int) (k : Kont α) : evFun Try.prog R1 (ref_Ult_L1_h) false Try.f56 (bodyOf Try.f56) 60 (mkS [.val (.int .i64), .val (.int .i64)] (a0, a1, ())) (mkH [] ()) k = outOf (ref_Ult a0 a1) fun v => k (.lit (.bool v)) [] :=
  (show _ = ref_Ult_t a0 a1 (fun v => k (.lit (.bool v)) []) from by kernel_rfl).trans (ref_Ult_t_eq a0 a1 _)
theorem ref_Ult_good : TX.Good Try.prog 56 ref_Ult_sp := good_form R1_ok mixed Try.func56 (body_of rfl) (by kernel_rfl) false fun α a m k r h => by
  obtain ⟨a0, a1, _⟩ := a; obtain _ := m
  exact ⟨ref_Ult_L1_h, 60, ref_Ult_L1_h_ok, rfl, (ref_Ult_ev a0 a1 k).trans h⟩
noncomputable def R2 : Env := R1.add 54 true ref_bits_sp |>.add 55 true ref_make2_sp |>.add 56 true ref_Ult_sp
theorem R2_ok : R2.OK Try.prog := ((R1_ok.add_ok ref_bits_good).add_ok ref_make2_good).add_ok ref_Ult_good
/-! f29 tenterhook/tenterhookref02.Add -/
def ref_Add_h0 : Hints := Hints.nil 0
theorem ref_Add_h0_ok : ref_Add_h0.OK Try.prog (bodyOf Try.f29) := Hints.nil_ok
def ref_Add_L1_A : List SD := [.any, .any, .any, .any, .loc 0 0 0, .val (.sl (.int .i64)), .val (.sl (.int .i64)), .rowz 1, .val (.int .i64), .val (.int .i64), .any, .any, .any, .any, .any, .any, .any, .any, .any, .any, .any, .any, .any, .any, .any, .any, .any, .any, .any, .any, .any, .any, .any, .any, .any, .any, .any, .any, .any, .any]
def ref_Add_L1_H : List HD := [.box [.val (.int .i64), .val (.int .i64)], .row (.int .i64)]
abbrev ref_Add_L1_D : Type := (List (Sh.Den (.int .i64))) × (List (Sh.Den (.int .i64))) × Nat × Int × Int × Int × Int × (List (Sh.Den (.int .i64)))
def ref_Add_L1_to (a : DenS ref_Add_L1_A) (m : DenH ref_Add_L1_H) : ref_Add_L1_D := (a.2.2.2.2.2.1, a.2.2.2.2.2.2.1, a.2.2.2.2.2.2.2.1, a.2.2.2.2.2.2.2.2.1, a.2.2.2.2.2.2.2.2.2.1, m.1.1, m.1.2.1, m.2.1)
def ref_Add_L1_ofA (d : ref_Add_L1_D) : DenS ref_Add_L1_A := match d with | (s5, s6, s7_n, s8, s9, m0_0, m0_1, m1) => ((), (), (), (), (), s5, s6, s7_n, s8, s9, (), (), (), (), (), (), (), (), (), (), (), (), (), (), (), (), (), (), (), (), (), (), (), (), (), (), (), (), (), (), ())
def ref_Add_L1_ofH (d : ref_Add_L1_D) : DenH ref_Add_L1_H := match d with | (s5, s6, s7_n, s8, s9, m0_0, m0_1, m1) => ((m0_0, m0_1, ()), m1, ())
def ref_Add_L1_N : Norm := (⟨[4, 5, 6, 7, 8, 9], [], []⟩ : Norm)
def ref_Add_L1_X : Exit → Norm := fun e => match e with | .exit 0 => ⟨[4, 7], [], []⟩ | _ => ⟨[], [], []⟩
abbrev ref_Add_L1_R : Type := (Nat × Int × Int × (List Int))
def ref_Add_L1_fin (v : ref_Add_L1_R) : Exit × St := ((.exit 0), ⟨[.any, .any, .any, .any, .ptr 0 0 0, .any, .any, .msl 1 0 v.1, .any, .any, .any, .any, .any, .any, .any, .any, .any, .any, .any, .any, .any, .any, .any, .any, .any, .any, .any, .any, .any, .any, .any, .any, .any, .any, .any, .any, .any, .any, .any, .any], [.box [.lit (.int .i64 v.2.1), .lit (.int .i64 v.2.2.1)], .row (.int .i64) v.2.2.2]⟩)
noncomputable def ref_Add_L1_t {γ : Type} (s5 : (List (Sh.Den (.int .i64)))) (s6 : (List (Sh.Den (.int .i64)))) (s7_n : Nat) (s8 : Int) (s9 : Int) (m0_0 : Int) (m0_1 : Int) (m1 : (List (Sh.Den (.int .i64)))) (next : ref_Add_L1_D → Option γ) (out : ref_Add_L1_R → Option γ) : Option γ := cond (decide (s9 < (128 : Int))) (cond (decide ((0 : Int) ≤ s9 ∧ s9 < (↑(List.length s5) : Int))) (cond (decide ((0 : Int) ≤ s9 ∧ s9 < (↑(List.length s6) : Int))) (cond (decide ((0 : Int) ≤ s9 ∧ s9 < (↑s7_n : Int))) (next (s5, s6, s7_n, IntKind.wrap IntKind.i64 (Int.tdiv (IntKind.wrap IntKind.i64 (IntKind.wrap IntKind.i64 (List.getD s5 (Int.toNat s9) (0 : Int) + List.getD s6 (Int.toNat s9) (0 : Int)) + s8)) (2 : Int)), IntKind.wrap IntKind.i64 (s9 + (1 : Int)), m0_0, m0_1, List.set m1 ((0 : Nat) + Int.toNat s9) (Int.tmod (IntKind.wrap IntKind.i64 (IntKind.wrap IntKind.i64 (List.getD s5 (Int.toNat s9) (0 : Int) + List.getD s6 (Int.toNat s9) (0 : Int)) + s8)) (2 : Int)))) (none)) (none)) (none)) (out (s7_n, m0_0, m0_1, m1))
noncomputable def ref_Add_L1_pass (d : ref_Add_L1_D) : Option (ref_Add_L1_D ⊕ ref_Add_L1_R) := ref_Add_L1_t d.1 d.2.1 d.2.2.1 d.2.2.2.1 d.2.2.2.2.1 d.2.2.2.2.2.1 d.2.2.2.2.2.2.1 d.2.2.2.2.2.2.2 (fun d => some (.inl d)) (fun x => some (.inr x))
theorem ref_Add_L1_t_eq {γ : Type} (s5 : (List (Sh.Den (.int .i64)))) (s6 : (List (Sh.Den (.int .i64)))) (s7_n : Nat) (s8 : Int) (s9 : Int) (m0_0 : Int) (m0_1 : Int) (m1 : (List (Sh.Den (.int .i64)))) (next : ref_Add_L1_D → Option γ) (out : ref_Add_L1_R → Option γ) : ref_Add_L1_t s5 s6 s7_n s8 s9 m0_0 m0_1 m1 next out = PassOf (ref_Add_L1_t s5 s6 s7_n s8 s9 m0_0 m0_1 m1 (fun d => some (.inl d)) (fun x => some (.inr x))) next out := by
  delta ref_Add_L1_t; exact (Ps.nd (Ps.nd (Ps.nd (Ps.nd Ps.nx Ps.no) Ps.no) Ps.no) Ps.ou)
theorem ref_Add_L1_ev (α : Type) (d : ref_Add_L1_D) (next : ref_Add_L1_D → Option α) (k : Exit → St → Option α) : ev Try.prog R2 ref_Add_h0 60 [0, 0, 1, 0, 1, 1, 1, 1, 1] ((codeAt (bodyOf Try.f29) [0, 0, 1, 0, 1, 1, 1, 1, 1]).getD .skip) ⟨mkS ref_Add_L1_A (ref_Add_L1_ofA d), mkH ref_Add_L1_H (ref_Add_L1_ofH d)⟩ (passK 0 ref_Add_L1_N ref_Add_L1_A ref_Add_L1_H ref_Add_L1_X (fun a m => next (ref_Add_L1_to a m)) k) = PassOf (ref_Add_L1_pass d) next fun x => k (ref_Add_L1_fin x).1 (ref_Add_L1_fin x).2 := by
  obtain ⟨s5, s6, s7_n, s8, s9, m0_0, m0_1, m1⟩ := d
  exact (show _ = ref_Add_L1_t s5 s6 s7_n s8 s9 m0_0 m0_1 m1 next (fun x => k (ref_Add_L1_fin x).1 (ref_Add_L1_fin x).2) from by kernel_rfl).trans (ref_Add_L1_t_eq s5 s6 s7_n s8 s9 m0_0 m0_1 m1 _ _)
noncomputable def ref_Add_L1 (d : ref_Add_L1_D) : Option ref_Add_L1_R := runs ref_Add_L1_pass d
noncomputable def ref_Add_L1_sp : CSpec := fun _ st k => reNorm 0 ref_Add_L1_N ref_Add_L1_A ref_Add_L1_H st fun a m => outOf (ref_Add_L1 (ref_Add_L1_to a m)) fun v => k (.exit 0) ⟨[.any, .any, .any, .any, .ptr 0 0 0, .any, .any, .msl 1 0 v.1, .any, .any, .any, .any, .any, .any, .any, .any, .any, .any, .any, .any, .any, .any, .any, .any, .any, .any, .any, .any, .any, .any, .any, .any, .any, .any, .any, .any, .any, .any, .any, .any], [.box [.lit (.int .i64 v.2.1), .lit (.int .i64 v.2.2.1)], .row (.int .i64) v.2.2.2]⟩
theorem ref_Add_L1_ok : SumOK Try.prog 0 (.loop ((codeAt (bodyOf Try.f29) [0, 0, 1, 0, 1, 1, 1, 1, 1]).getD .skip)) ref_Add_L1_sp := (SumOK.loop R2_ok mixed ref_Add_h0_ok (show codeAt (bodyOf Try.f29) [0, 1, 0, 1, 1, 1, 1, 1] = some (.loop ((codeAt (bodyOf Try.f29) [0, 0, 1, 0, 1, 1, 1, 1, 1]).getD .skip)) from by kernel_rfl) (N := ref_Add_L1_N) (Nx := ref_Add_L1_X) (A := ref_Add_L1_A) (Hs := ref_Add_L1_H) (toD := ref_Add_L1_to) (ofA := ref_Add_L1_ofA) (ofH := ref_Add_L1_ofH) (fun _ _ => rfl) (fun _ _ => rfl) (pass := ref_Add_L1_pass) (fin := ref_Add_L1_fin) 60 ref_Add_L1_ev (steps ref_Add_L1_pass)).mono fun α st k r h => by
  refine Eq.trans (congrArg (reNorm 0 ref_Add_L1_N ref_Add_L1_A ref_Add_L1_H st) ?_) h
  funext a m
  exact outOf_congr fun x => rfl
noncomputable def ref_Add_L1_h : Hints := ref_Add_h0.add [0, 1, 0, 1, 1, 1, 1, 1] ref_Add_L1_sp
theorem ref_Add_L1_h_ok : ref_Add_L1_h.OK Try.prog (bodyOf Try.f29) := ref_Add_h0_ok.add (show codeAt (bodyOf Try.f29) [0, 1, 0, 1, 1, 1, 1, 1] = some (.loop ((codeAt (bodyOf Try.f29) [0, 0, 1, 0, 1, 1, 1, 1, 1]).getD .skip)) from by kernel_rfl) ref_Add_L1_ok
abbrev ref_Add_R : Type := (Int × Int)
noncomputable def ref_Add_t {γ : Type} (a0_0 : Int) (a0_1 : Int) (a1_0 : Int) (a1_1 : Int) (k : ref_Add_R → Option γ) : Option γ := outOf (ref_bits a0_0 a0_1) fun (x1 : (List Int)) => outOf (ref_bits a1_0 a1_1) fun (x2 : (List Int)) => outOf (ref_Add_L1 (x1, x2, (128 : Nat), (0 : Int), (0 : Int), (0 : Int), (0 : Int), List.replicate (128 : Nat) (0 : Int))) fun (x3 : (Nat × (Int × (Int × (List Int))))) => outOf (ref_make2 (List.take (Prod.fst x3) (List.drop (0 : Nat) (Prod.snd (Prod.snd (Prod.snd x3)))))) fun (x4 : (Int × Int)) => k (Prod.fst x4, Prod.snd x4)
noncomputable def ref_Add (a0_0 : Int) (a0_1 : Int) (a1_0 : Int) (a1_1 : Int) : Option ref_Add_R := ref_Add_t a0_0 a0_1 a1_0 a1_1 some
theorem ref_Add_t_eq {γ : Type} (a0_0 : Int) (a0_1 : Int) (a1_0 : Int) (a1_1 : Int) (k : ref_Add_R → Option γ) : ref_Add_t a0_0 a0_1 a1_0 a1_1 k = outOf (ref_Add a0_0 a0_1 a1_0 a1_1) k := by
  delta ref_Add ref_Add_t; exact (Tr.bd fun x1 => (Tr.bd fun x2 => (Tr.bd fun x3 => (Tr.bd fun x4 => Tr.lf))))
noncomputable def ref_Add_sp : TX.Spec := specD [.agg (.pair (.int .i64) (.int .i64)), .agg (.pair (.int .i64) (.int .i64))] [] fun _ a m k => match a, m with | ⟨⟨a0_0, a0_1⟩, ⟨a1_0, a1_1⟩, _⟩, _ => outOf (ref_Add a0_0 a0_1 a1_0 a1_1) fun v => k (.agg [.lit (.int .i64 v.1), .lit (.int .i64 v.2)]) []
theorem ref_Add_ev {α : Type} (a0_0 : Int) (a0_1 : Int) (a1_0 : Int) (a1_1 : Int) (k : Kont α) : evFun Try.prog R2 (ref_Add_L1_h) false Try.f29 (bodyOf Try.f29) 60 (mkS [.agg (.pair (.int .i64) (.int .i64)), .agg (.pair (.int .i64) (.int .i64))] ((a0_0, a0_1), (a1_0, a1_1), ())) (mkH [] ()) k = outOf (ref_Add a0_0 a0_1 a1_0 a1_1) fun v => k (.agg [.lit (.int .i64 v.1), .lit (.int .i64 v.2)]) [] :=
  (show _ = ref_Add_t a0_0 a0_1 a1_0 a1_1 (fun v => k (.agg [.lit (.int .i64 v.1), .lit (.int .i64 v.2)]) []) from by kernel_rfl).trans (ref_Add_t_eq a0_0 a0_1 a1_0 a1_1 _)
theorem ref_Add_good : TX.Good Try.prog 29 ref_Add_sp := good_form R2_ok mixed Try.func29 (body_of rfl) (by kernel_rfl) false fun α a m k r h => by
  obtain ⟨⟨a0_0, a0_1⟩, ⟨a1_0, a1_1⟩, _⟩ := a; obtain _ := m
  exact ⟨ref_Add_L1_h, 60, ref_Add_L1_h_ok, rfl, (ref_Add_ev a0_0 a0_1 a1_0 a1_1 k).trans h⟩
/-! f31 tenterhook/tenterhookref02.Cmp -/
def ref_Cmp_h0 : Hints := Hints.nil 0
theorem ref_Cmp_h0_ok : ref_Cmp_h0.OK Try.prog (bodyOf Try.f31) := Hints.nil_ok
abbrev ref_Cmp_R : Type := (Int)
noncomputable def ref_Cmp_t {γ : Type} (a0_0 : Int) (a0_1 : Int) (a1_0 : Int) (a1_1 : Int) (k : ref_Cmp_R → Option γ) : Option γ := cond (a0_0 == a1_0 && (a0_1 == a1_1 && true)) (k ((0 : Int))) (cond (decide (a0_1 < a1_1)) (k ((-1 : Int))) (cond (a0_1 == a1_1) (outOf (ref_Ult a0_0 a1_0) fun (x1 : Bool) => cond x1 (k ((-1 : Int))) (k ((1 : Int)))) (k ((1 : Int)))))
noncomputable def ref_Cmp (a0_0 : Int) (a0_1 : Int) (a1_0 : Int) (a1_1 : Int) : Option ref_Cmp_R := ref_Cmp_t a0_0 a0_1 a1_0 a1_1 some
theorem ref_Cmp_t_eq {γ : Type} (a0_0 : Int) (a0_1 : Int) (a1_0 : Int) (a1_1 : Int) (k : ref_Cmp_R → Option γ) : ref_Cmp_t a0_0 a0_1 a1_0 a1_1 k = outOf (ref_Cmp a0_0 a0_1 a1_0 a1_1) k := by
  delta ref_Cmp ref_Cmp_t; exact (Tr.nd Tr.lf (Tr.nd Tr.lf (Tr.nd (Tr.bd fun x1 => (Tr.nd Tr.lf Tr.lf)) Tr.lf)))
noncomputable def ref_Cmp_sp : TX.Spec := specD [.agg (.pair (.int .i64) (.int .i64)), .agg (.pair (.int .i64) (.int .i64))] [] fun _ a m k => match a, m with | ⟨⟨a0_0, a0_1⟩, ⟨a1_0, a1_1⟩, _⟩, _ => outOf (ref_Cmp a0_0 a0_1 a1_0 a1_1) fun v => k (.lit (.int .i64 v)) []
theorem ref_Cmp_ev {α : Type} (a0_0 : Int) (a0_1 : Int) (a1_0 : Int) (a1_1 : Int) (k : Kont α) : evFun Try.prog R2 (ref_Cmp_h0) false Try.f31 (bodyOf Try.f31) 60 (mkS [.agg (.pair (.int .i64) (.int .i64)), .agg (.pair (.int .i64) (.int .i64))] ((a0_0, a0_1), (a1_0, a1_1), ())) (mkH [] ()) k = outOf (ref_Cmp a0_0 a0_1 a1_0 a1_1) fun v => k (.lit (.int .i64 v)) [] :=
  (show _ = ref_Cmp_t a0_0 a0_1 a1_0 a1_1 (fun v => k (.lit (.int .i64 v)) []) from by kernel_rfl).trans (ref_Cmp_t_eq a0_0 a0_1 a1_0 a1_1 _)
theorem ref_Cmp_good : TX.Good Try.prog 31 ref_Cmp_sp := good_form R2_ok mixed Try.func31 (body_of rfl) (by kernel_rfl) false fun α a m k r h => by
  obtain ⟨⟨a0_0, a0_1⟩, ⟨a1_0, a1_1⟩, _⟩ := a; obtain _ := m
  exact ⟨ref_Cmp_h0, 60, ref_Cmp_h0_ok, rfl, (ref_Cmp_ev a0_0 a0_1 a1_0 a1_1 k).trans h⟩
/-! f65 tenterhook/tenterhookref02.less -/
def ref_less_h0 : Hints := Hints.nil 0
theorem ref_less_h0_ok : ref_less_h0.OK Try.prog (bodyOf Try.f65) := Hints.nil_ok
abbrev ref_less_R : Type := (Bool)
noncomputable def ref_less_t {γ : Type} (a0_0 : Int) (a0_1 : Int) (a1_0 : Int) (a1_1 : Int) (k : ref_less_R → Option γ) : Option γ := outOf (ref_Ult a0_1 a1_1) fun (x1 : Bool) => cond x1 (k (true)) (cond (a0_1 == a1_1) (outOf (ref_Ult a0_0 a1_0) fun (x2 : Bool) => k (x2)) (k (false)))
noncomputable def ref_less (a0_0 : Int) (a0_1 : Int) (a1_0 : Int) (a1_1 : Int) : Option ref_less_R := ref_less_t a0_0 a0_1 a1_0 a1_1 some
theorem ref_less_t_eq {γ : Type} (a0_0 : Int) (a0_1 : Int) (a1_0 : Int) (a1_1 : Int) (k : ref_less_R → Option γ) : ref_less_t a0_0 a0_1 a1_0 a1_1 k = outOf (ref_less a0_0 a0_1 a1_0 a1_1) k := by
  delta ref_less ref_less_t; exact (Tr.bd fun x1 => (Tr.nd Tr.lf (Tr.nd (Tr.bd fun x2 => Tr.lf) Tr.lf)))
noncomputable def ref_less_sp : TX.Spec := specD [.agg (.pair (.int .i64) (.int .i64)), .agg (.pair (.int .i64) (.int .i64))] [] fun _ a m k => match a, m with | ⟨⟨a0_0, a0_1⟩, ⟨a1_0, a1_1⟩, _⟩, _ => outOf (ref_less a0_0 a0_1 a1_0 a1_1) fun v => k (.lit (.bool v)) []
theorem ref_less_ev {α : Type} (a0_0 : Int) (a0_1 : Int) (a1_0 : Int) (a1_1 : Int) (k : Kont α) : evFun Try.prog R2 (ref_less_h0) false Try.f65 (bodyOf Try.f65) 60 (mkS [.agg (.pair (.int .i64) (.int .i64)), .agg (.pair (.int .i64) (.int .i64))] ((a0_0, a0_1), (a1_0, a1_1), ())) (mkH [] ()) k = outOf (ref_less a0_0 a0_1 a1_0 a1_1) fun v => k (.lit (.bool v)) [] :=
  (show _ = ref_less_t a0_0 a0_1 a1_0 a1_1 (fun v => k (.lit (.bool v)) []) from by kernel_rfl).trans (ref_less_t_eq a0_0 a0_1 a1_0 a1_1 _)
theorem ref_less_good : TX.Good Try.prog 65 ref_less_sp := good_form R2_ok mixed Try.func65 (body_of rfl) (by kernel_rfl) false fun α a m k r h => by
  obtain ⟨⟨a0_0, a0_1⟩, ⟨a1_0, a1_1⟩, _⟩ := a; obtain _ := m
  exact ⟨ref_less_h0, 60, ref_less_h0_ok, rfl, (ref_less_ev a0_0 a0_1 a1_0 a1_1 k).trans h⟩
noncomputable def R3 : Env := R2.add 29 true ref_Add_sp |>.add 31 true ref_Cmp_sp |>.add 65 true ref_less_sp
theorem R3_ok : R3.OK Try.prog := ((R2_ok.add_ok ref_Add_good).add_ok ref_Cmp_good).add_ok ref_less_good
/-! f30 tenterhook/tenterhookref02.Neg -/
def ref_Neg_h0 : Hints := Hints.nil 0
theorem ref_Neg_h0_ok : ref_Neg_h0.OK Try.prog (bodyOf Try.f30) := Hints.nil_ok
abbrev ref_Neg_R : Type := (Int × Int)
noncomputable def ref_Neg_t {γ : Type} (a0_0 : Int) (a0_1 : Int) (k : ref_Neg_R → Option γ) : Option γ := outOf (ref_Add (IntKind.wrap IntKind.i64 ((-1 : Int) - a0_0)) (IntKind.wrap IntKind.i64 ((-1 : Int) - a0_1)) (1 : Int) (0 : Int)) fun (x1 : (Int × Int)) => k (Prod.fst x1, Prod.snd x1)
noncomputable def ref_Neg (a0_0 : Int) (a0_1 : Int) : Option ref_Neg_R := ref_Neg_t a0_0 a0_1 some
theorem ref_Neg_t_eq {γ : Type} (a0_0 : Int) (a0_1 : Int) (k : ref_Neg_R → Option γ) : ref_Neg_t a0_0 a0_1 k = outOf (ref_Neg a0_0 a0_1) k := by
  delta ref_Neg ref_Neg_t; exact (Tr.bd fun x1 => Tr.lf)
noncomputable def ref_Neg_sp : TX.Spec := specD [.agg (.pair (.int .i64) (.int .i64))] [] fun _ a m k => match a, m with | ⟨⟨a0_0, a0_1⟩, _⟩, _ => outOf (ref_Neg a0_0 a0_1) fun v => k (.agg [.lit (.int .i64 v.1), .lit (.int .i64 v.2)]) []
theorem ref_Neg_ev {α : Type} (a0_0 : Int) (a0_1 : Int) (k : Kont α) : evFun Try.prog R3 (ref_Neg_h0) false Try.f30 (bodyOf Try.f30) 60 (mkS [.agg (.pair (.int .i64) (.int .i64))] ((a0_0, a0_1), ())) (mkH [] ()) k = outOf (ref_Neg a0_0 a0_1) fun v => k (.agg [.lit (.int .i64 v.1), .lit (.int .i64 v.2)]) [] :=
  (show _ = ref_Neg_t a0_0 a0_1 (fun v => k (.agg [.lit (.int .i64 v.1), .lit (.int .i64 v.2)]) []) from by kernel_rfl).trans (ref_Neg_t_eq a0_0 a0_1 _)
theorem ref_Neg_good : TX.Good Try.prog 30 ref_Neg_sp := good_form R3_ok mixed Try.func30 (body_of rfl) (by kernel_rfl) false fun α a m k r h => by
  obtain ⟨⟨a0_0, a0_1⟩, _⟩ := a; obtain _ := m
  exact ⟨ref_Neg_h0, 60, ref_Neg_h0_ok, rfl, (ref_Neg_ev a0_0 a0_1 k).trans h⟩
/-! f57 tenterhook/tenterhookref02.twice -/
def ref_twice_h0 : Hints := Hints.nil 0
theorem ref_twice_h0_ok : ref_twice_h0.OK Try.prog (bodyOf Try.f57) := Hints.nil_ok
abbrev ref_twice_R : Type := (Int × Int)
noncomputable def ref_twice_t {γ : Type} (a0_0 : Int) (a0_1 : Int) (k : ref_twice_R → Option γ) : Option γ := outOf (ref_Add a0_0 a0_1 a0_0 a0_1) fun (x1 : (Int × Int)) => k (Prod.fst x1, Prod.snd x1)
noncomputable def ref_twice (a0_0 : Int) (a0_1 : Int) : Option ref_twice_R := ref_twice_t a0_0 a0_1 some
theorem ref_twice_t_eq {γ : Type} (a0_0 : Int) (a0_1 : Int) (k : ref_twice_R → Option γ) : ref_twice_t a0_0 a0_1 k = outOf (ref_twice a0_0 a0_1) k := by
  delta ref_twice ref_twice_t; exact (Tr.bd fun x1 => Tr.lf)
noncomputable def ref_twice_sp : TX.Spec := specD [.agg (.pair (.int .i64) (.int .i64))] [] fun _ a m k => match a, m with | ⟨⟨a0_0, a0_1⟩, _⟩, _ => outOf (ref_twice a0_0 a0_1) fun v => k (.agg [.lit (.int .i64 v.1), .lit (.int .i64 v.2)]) []
theorem ref_twice_ev {α : Type} (a0_0 : Int) (a0_1 : Int) (k : Kont α) : evFun Try.prog R3 (ref_twice_h0) false Try.f57 (bodyOf Try.f57) 60 (mkS [.agg (.pair (.int .i64) (.int .i64))] ((a0_0, a0_1), ())) (mkH [] ()) k = outOf (ref_twice a0_0 a0_1) fun v => k (.agg [.lit (.int .i64 v.1), .lit (.int .i64 v.2)]) [] :=
  (show _ = ref_twice_t a0_0 a0_1 (fun v => k (.agg [.lit (.int .i64 v.1), .lit (.int .i64 v.2)]) []) from by kernel_rfl).trans (ref_twice_t_eq a0_0 a0_1 _)
theorem ref_twice_good : TX.Good Try.prog 57 ref_twice_sp := good_form R3_ok mixed Try.func57 (body_of rfl) (by kernel_rfl) false fun α a m k r h => by
  obtain ⟨⟨a0_0, a0_1⟩, _⟩ := a; obtain _ := m
  exact ⟨ref_twice_h0, 60, ref_twice_h0_ok, rfl, (ref_twice_ev a0_0 a0_1 k).trans h⟩
noncomputable def R4 : Env := R3.add 30 true ref_Neg_sp |>.add 57 true ref_twice_sp
theorem R4_ok : R4.OK Try.prog := (R3_ok.add_ok ref_Neg_good).add_ok ref_twice_good
/-! f32 tenterhook/tenterhookref02.UMul -/
def ref_UMul_h0 : Hints := Hints.nil 0
theorem ref_UMul_h0_ok : ref_UMul_h0.OK Try.prog (bodyOf Try.f32) := Hints.nil_ok
def ref_UMul_L1_A : List SD := [.val (.int .i64), .val (.int .i64), .any, .any, .loc 0 0 0, .loc 1 0 0, .val (.int .i64), .any, .any, .any, .any, .any, .any, .any, .any, .any, .any, .any, .any, .any, .any, .any, .any]
def ref_UMul_L1_H : List HD := [.box [.val (.int .i64), .val (.int .i64)], .box [.val (.int .i64), .val (.int .i64)]]
abbrev ref_UMul_L1_D : Type := Int × Int × Int × Int × Int × Int × Int
def ref_UMul_L1_to (a : DenS ref_UMul_L1_A) (m : DenH ref_UMul_L1_H) : ref_UMul_L1_D := (a.1, a.2.1, a.2.2.2.2.2.2.1, m.1.1, m.1.2.1, m.2.1.1, m.2.1.2.1)
def ref_UMul_L1_ofA (d : ref_UMul_L1_D) : DenS ref_UMul_L1_A := match d with | (s0, s1, s6, m0_0, m0_1, m1_0, m1_1) => (s0, s1, (), (), (), (), s6, (), (), (), (), (), (), (), (), (), (), (), (), (), (), (), (), ())
def ref_UMul_L1_ofH (d : ref_UMul_L1_D) : DenH ref_UMul_L1_H := match d with | (s0, s1, s6, m0_0, m0_1, m1_0, m1_1) => ((m0_0, m0_1, ()), (m1_0, m1_1, ()), ())
def ref_UMul_L1_N : Norm := (⟨[0, 1, 4, 5, 6], [], []⟩ : Norm)
def ref_UMul_L1_X : Exit → Norm := fun e => match e with | .exit 0 => ⟨[4, 5], [], []⟩ | _ => ⟨[], [], []⟩
abbrev ref_UMul_L1_R : Type := (Int × Int × Int × Int)
def ref_UMul_L1_fin (v : ref_UMul_L1_R) : Exit × St := ((.exit 0), ⟨[.any, .any, .any, .any, .ptr 0 0 0, .ptr 1 0 0, .any, .any, .any, .any, .any, .any, .any, .any, .any, .any, .any, .any, .any, .any, .any, .any, .any], [.box [.lit (.int .i64 v.1), .lit (.int .i64 v.2.1)], .box [.lit (.int .i64 v.2.2.1), .lit (.int .i64 v.2.2.2)]]⟩)
noncomputable def ref_UMul_L1_t {γ : Type} (s0 : Int) (s1 : Int) (s6 : Int) (m0_0 : Int) (m0_1 : Int) (m1_0 : Int) (m1_1 : Int) (next : ref_UMul_L1_D → Option γ) (out : ref_UMul_L1_R → Option γ) : Option γ := cond (decide (s6 ≥ (0 : Int))) (outOf (ref_twice m1_0 m1_1) fun (x1 : (Int × Int)) => outOf (ref_Bit s1 s6) fun (x2 : Int) => cond (x2 == (1 : Int)) (outOf (ref_Add (Prod.fst x1) (Prod.snd x1) s0 (0 : Int)) fun (x3 : (Int × Int)) => next (s0, s1, IntKind.wrap IntKind.i64 (s6 - (1 : Int)), m0_0, m0_1, Prod.fst x3, Prod.snd x3)) (next (s0, s1, IntKind.wrap IntKind.i64 (s6 - (1 : Int)), m0_0, m0_1, Prod.fst x1, Prod.snd x1))) (out (m0_0, m0_1, m1_0, m1_1))
noncomputable def ref_UMul_L1_pass (d : ref_UMul_L1_D) : Option (ref_UMul_L1_D ⊕ ref_UMul_L1_R) := ref_UMul_L1_t d.1 d.2.1 d.2.2.1 d.2.2.2.1 d.2.2.2.2.1 d.2.2.2.2.2.1 d.2.2.2.2.2.2 (fun d => some (.inl d)) (fun x => some (.inr x))
theorem ref_UMul_L1_t_eq {γ : Type} (s0 : Int) (s1 : Int) (s6 : Int) (m0_0 : Int) (m0_1 : Int) (m1_0 : Int) (m1_1 : Int) (next : ref_UMul_L1_D → Option γ) (out : ref_UMul_L1_R → Option γ) : ref_UMul_L1_t s0 s1 s6 m0_0 m0_1 m1_0 m1_1 next out = PassOf (ref_UMul_L1_t s0 s1 s6 m0_0 m0_1 m1_0 m1_1 (fun d => some (.inl d)) (fun x => some (.inr x))) next out := by
  delta ref_UMul_L1_t; exact (Ps.nd (Ps.bd fun x1 => (Ps.bd fun x2 => (Ps.nd (Ps.bd fun x3 => Ps.nx) Ps.nx))) Ps.ou)
theorem ref_UMul_L1_ev (α : Type) (d : ref_UMul_L1_D) (next : ref_UMul_L1_D → Option α) (k : Exit → St → Option α) : ev Try.prog R4 ref_UMul_h0 60 [0, 0, 1, 0, 1, 1] ((codeAt (bodyOf Try.f32) [0, 0, 1, 0, 1, 1]).getD .skip) ⟨mkS ref_UMul_L1_A (ref_UMul_L1_ofA d), mkH ref_UMul_L1_H (ref_UMul_L1_ofH d)⟩ (passK 0 ref_UMul_L1_N ref_UMul_L1_A ref_UMul_L1_H ref_UMul_L1_X (fun a m => next (ref_UMul_L1_to a m)) k) = PassOf (ref_UMul_L1_pass d) next fun x => k (ref_UMul_L1_fin x).1 (ref_UMul_L1_fin x).2 := by
  obtain ⟨s0, s1, s6, m0_0, m0_1, m1_0, m1_1⟩ := d
  exact (show _ = ref_UMul_L1_t s0 s1 s6 m0_0 m0_1 m1_0 m1_1 next (fun x => k (ref_UMul_L1_fin x).1 (ref_UMul_L1_fin x).2) from by kernel_rfl).trans (ref_UMul_L1_t_eq s0 s1 s6 m0_0 m0_1 m1_0 m1_1 _ _)
noncomputable def ref_UMul_L1 (d : ref_UMul_L1_D) : Option ref_UMul_L1_R := runs ref_UMul_L1_pass d
noncomputable def ref_UMul_L1_sp : CSpec := fun _ st k => reNorm 0 ref_UMul_L1_N ref_UMul_L1_A ref_UMul_L1_H st fun a m => outOf (ref_UMul_L1 (ref_UMul_L1_to a m)) fun v => k (.exit 0) ⟨[.any, .any, .any, .any, .ptr 0 0 0, .ptr 1 0 0, .any, .any, .any, .any, .any, .any, .any, .any, .any, .any, .any, .any, .any, .any, .any, .any, .any], [.box [.lit (.int .i64 v.1), .lit (.int .i64 v.2.1)], .box [.lit (.int .i64 v.2.2.1), .lit (.int .i64 v.2.2.2)]]⟩
theorem ref_UMul_L1_ok : SumOK Try.prog 0 (.loop ((codeAt (bodyOf Try.f32) [0, 0, 1, 0, 1, 1]).getD .skip)) ref_UMul_L1_sp := (SumOK.loop R4_ok mixed ref_UMul_h0_ok (show codeAt (bodyOf Try.f32) [0, 1, 0, 1, 1] = some (.loop ((codeAt (bodyOf Try.f32) [0, 0, 1, 0, 1, 1]).getD .skip)) from by kernel_rfl) (N := ref_UMul_L1_N) (Nx := ref_UMul_L1_X) (A := ref_UMul_L1_A) (Hs := ref_UMul_L1_H) (toD := ref_UMul_L1_to) (ofA := ref_UMul_L1_ofA) (ofH := ref_UMul_L1_ofH) (fun _ _ => rfl) (fun _ _ => rfl) (pass := ref_UMul_L1_pass) (fin := ref_UMul_L1_fin) 60 ref_UMul_L1_ev (steps ref_UMul_L1_pass)).mono fun α st k r h => by
  refine Eq.trans (congrArg (reNorm 0 ref_UMul_L1_N ref_UMul_L1_A ref_UMul_L1_H st) ?_) h
  funext a m
  exact outOf_congr fun x => rfl
noncomputable def ref_UMul_L1_h : Hints := ref_UMul_h0.add [0, 1, 0, 1, 1] ref_UMul_L1_sp
theorem ref_UMul_L1_h_ok : ref_UMul_L1_h.OK Try.prog (bodyOf Try.f32) := ref_UMul_h0_ok.add (show codeAt (bodyOf Try.f32) [0, 1, 0, 1, 1] = some (.loop ((codeAt (bodyOf Try.f32) [0, 0, 1, 0, 1, 1]).getD .skip)) from by kernel_rfl) ref_UMul_L1_ok
abbrev ref_UMul_R : Type := (Int × Int)
noncomputable def ref_UMul_t {γ : Type} (a0 : Int) (a1 : Int) (k : ref_UMul_R → Option γ) : Option γ := outOf (ref_UMul_L1 (a0, a1, (63 : Int), (0 : Int), (0 : Int), (0 : Int), (0 : Int))) fun (x4 : (Int × (Int × (Int × Int)))) => k (Prod.fst (Prod.snd (Prod.snd x4)), Prod.snd (Prod.snd (Prod.snd x4)))
noncomputable def ref_UMul (a0 : Int) (a1 : Int) : Option ref_UMul_R := ref_UMul_t a0 a1 some
theorem ref_UMul_t_eq {γ : Type} (a0 : Int) (a1 : Int) (k : ref_UMul_R → Option γ) : ref_UMul_t a0 a1 k = outOf (ref_UMul a0 a1) k := by
  delta ref_UMul ref_UMul_t; exact (Tr.bd fun x4 => Tr.lf)
noncomputable def ref_UMul_sp : TX.Spec := specD [.val (.int .i64), .val (.int .i64)] [] fun _ a m k => match a, m with | ⟨a0, a1, _⟩, _ => outOf (ref_UMul a0 a1) fun v => k (.agg [.lit (.int .i64 v.1), .lit (.int .i64 v.2)]) []
theorem ref_UMul_ev {α : Type} (a0 : Int) (a1 : Int) (k : Kont α) : evFun Try.prog R4 (ref_UMul_L1_h) false Try.f32 (bodyOf Try.f32) 60 (mkS [.val (.int .i64), .val (.int .i64)] (a0, a1, ())) (mkH [] ()) k = outOf (ref_UMul a0 a1) fun v => k (.agg [.lit (.int .i64 v.1), .lit (.int .i64 v.2)]) [] :=
  (show _ = ref_UMul_t a0 a1 (fun v => k (.agg [.lit (.int .i64 v.1), .lit (.int .i64 v.2)]) []) from by kernel_rfl).trans (ref_UMul_t_eq a0 a1 _)
theorem ref_UMul_good : TX.Good Try.prog 32 ref_UMul_sp := good_form R4_ok mixed Try.func32 (body_of rfl) (by kernel_rfl) false fun α a m k r h => by
  obtain ⟨a0, a1, _⟩ := a; obtain _ := m
  exact ⟨ref_UMul_L1_h, 60, ref_UMul_L1_h_ok, rfl, (ref_UMul_ev a0 a1 k).trans h⟩
/-! f33 tenterhook/tenterhookref02.Mul -/
def ref_Mul_h0 : Hints := Hints.nil 0
theorem ref_Mul_h0_ok : ref_Mul_h0.OK Try.prog (bodyOf Try.f33) := Hints.nil_ok
def ref_Mul_L1_A : List SD := [.any, .val (.int .i64), .any, .any, .loc 0 0 0, .loc 1 0 0, .loc 2 0 0, .val (.int .i64), .any, .any, .any, .any, .any, .any, .any, .any, .any, .any, .any, .any, .any, .any, .any, .any, .any, .any, .any, .any, .any, .any, .any, .any, .any, .any, .any, .any, .any, .any, .any, .any, .any]
def ref_Mul_L1_H : List HD := [.box [.val (.int .i64), .val (.int .i64)], .box [.val (.int .i64), .val (.int .i64)], .box [.val (.int .i64), .val (.int .i64)]]
abbrev ref_Mul_L1_D : Type := Int × Int × Int × Int × Int × Int × Int × Int
def ref_Mul_L1_to (a : DenS ref_Mul_L1_A) (m : DenH ref_Mul_L1_H) : ref_Mul_L1_D := (a.2.1, a.2.2.2.2.2.2.2.1, m.1.1, m.1.2.1, m.2.1.1, m.2.1.2.1, m.2.2.1.1, m.2.2.1.2.1)
def ref_Mul_L1_ofA (d : ref_Mul_L1_D) : DenS ref_Mul_L1_A := match d with | (s1, s7, m0_0, m0_1, m1_0, m1_1, m2_0, m2_1) => ((), s1, (), (), (), (), (), s7, (), (), (), (), (), (), (), (), (), (), (), (), (), (), (), (), (), (), (), (), (), (), (), (), (), (), (), (), (), (), (), (), (), ())
def ref_Mul_L1_ofH (d : ref_Mul_L1_D) : DenH ref_Mul_L1_H := match d with | (s1, s7, m0_0, m0_1, m1_0, m1_1, m2_0, m2_1) => ((m0_0, m0_1, ()), (m1_0, m1_1, ()), (m2_0, m2_1, ()), ())
def ref_Mul_L1_N : Norm := (⟨[1, 4, 5, 6, 7], [], []⟩ : Norm)
def ref_Mul_L1_X : Exit → Norm := fun e => match e with | .exit 0 => ⟨[4, 5], [], []⟩ | _ => ⟨[], [], []⟩
def ref_Mul_M1_A : List SD := [.any, .val (.int .i64), .any, .any, .loc 0 0 0, .loc 1 0 0, .loc 2 0 0, .val (.int .i64), .any, .any, .any, .any, .any, .any, .any, .any, .any, .any, .any, .any, .any, .any, .any, .any, .any, .any, .any, .any, .any, .any, .any, .any, .any, .any, .any, .any, .any, .any, .any, .any, .any]
def ref_Mul_M1_H : List HD := [.box [.val (.int .i64), .val (.int .i64)], .box [.val (.int .i64), .val (.int .i64)], .box [.val (.int .i64), .val (.int .i64)]]
abbrev ref_Mul_M1_D : Type := Int × Int × Int × Int × Int × Int × Int × Int
def ref_Mul_M1_to (a : DenS ref_Mul_M1_A) (m : DenH ref_Mul_M1_H) : ref_Mul_M1_D := (a.2.1, a.2.2.2.2.2.2.2.1, m.1.1, m.1.2.1, m.2.1.1, m.2.1.2.1, m.2.2.1.1, m.2.2.1.2.1)
def ref_Mul_M1_ofA (d : ref_Mul_M1_D) : DenS ref_Mul_M1_A := match d with | (s1, s7, m0_0, m0_1, m1_0, m1_1, m2_0, m2_1) => ((), s1, (), (), (), (), (), s7, (), (), (), (), (), (), (), (), (), (), (), (), (), (), (), (), (), (), (), (), (), (), (), (), (), (), (), (), (), (), (), (), (), ())
def ref_Mul_M1_ofH (d : ref_Mul_M1_D) : DenH ref_Mul_M1_H := match d with | (s1, s7, m0_0, m0_1, m1_0, m1_1, m2_0, m2_1) => ((m0_0, m0_1, ()), (m1_0, m1_1, ()), (m2_0, m2_1, ()), ())
def ref_Mul_M1_N : Norm := (⟨[1, 4, 5, 6, 7], [], []⟩ : Norm)
def ref_Mul_M1_X : Exit → Norm := fun e => match e with | .normal => ⟨[1, 4, 5, 6, 7], [], []⟩ | _ => ⟨[], [], []⟩
abbrev ref_Mul_M1_R : Type := (Int × Int)
def ref_Mul_M1_fin (d : ref_Mul_M1_D) (v : ref_Mul_M1_R) : Exit × St := (.normal, ⟨[.any, .lit (.int .i64 d.1), .any, .any, .ptr 0 0 0, .ptr 1 0 0, .ptr 2 0 0, .lit (.int .i64 d.2.1), .any, .any, .any, .any, .any, .any, .any, .any, .any, .any, .any, .any, .any, .any, .any, .any, .any, .any, .any, .any, .any, .any, .any, .any, .any, .any, .any, .any, .any, .any, .any, .any, .any], [.box [.lit (.int .i64 d.2.2.1), .lit (.int .i64 d.2.2.2.1)], .box [.lit (.int .i64 v.1), .lit (.int .i64 v.2)], .box [.lit (.int .i64 d.2.2.2.2.2.2.1), .lit (.int .i64 d.2.2.2.2.2.2.2)]]⟩)
noncomputable def ref_Mul_M1_t {γ : Type} (s1 : Int) (s7 : Int) (m1_0 : Int) (m1_1 : Int) (m2_0 : Int) (m2_1 : Int) (k : ref_Mul_M1_R → Option γ) : Option γ := outOf (ref_Bit s1 s7) fun (x1 : Int) => cond (x1 == (1 : Int)) (cond (decide (s7 < (63 : Int))) (outOf (ref_Add m1_0 m1_1 m2_0 m2_1) fun (x2 : (Int × Int)) => k (Prod.fst x2, Prod.snd x2)) (k (m1_0, m1_1))) (k (m1_0, m1_1))
noncomputable def ref_Mul_M1 (s1 : Int) (s7 : Int) (m1_0 : Int) (m1_1 : Int) (m2_0 : Int) (m2_1 : Int) : Option ref_Mul_M1_R := ref_Mul_M1_t s1 s7 m1_0 m1_1 m2_0 m2_1 some
theorem ref_Mul_M1_t_eq {γ : Type} (s1 : Int) (s7 : Int) (m1_0 : Int) (m1_1 : Int) (m2_0 : Int) (m2_1 : Int) (k : ref_Mul_M1_R → Option γ) : ref_Mul_M1_t s1 s7 m1_0 m1_1 m2_0 m2_1 k = outOf (ref_Mul_M1 s1 s7 m1_0 m1_1 m2_0 m2_1) k := by
  delta ref_Mul_M1 ref_Mul_M1_t; exact (Tr.bd fun x1 => (Tr.nd (Tr.nd (Tr.bd fun x2 => Tr.lf) Tr.lf) Tr.lf))
theorem ref_Mul_M1_ev (α : Type) (d : ref_Mul_M1_D) (k : Exit → St → Option α) : ev Try.prog R4 ref_Mul_h0 60 [0, 0, 0, 1, 0, 0, 1, 0, 1, 1, 1] ((codeAt (bodyOf Try.f33) [0, 0, 0, 1, 0, 0, 1, 0, 1, 1, 1]).getD .skip) ⟨mkS ref_Mul_M1_A (ref_Mul_M1_ofA d), mkH ref_Mul_M1_H (ref_Mul_M1_ofH d)⟩ (exitN 0 ref_Mul_M1_X k) = outOf (ref_Mul_M1 d.1 d.2.1 d.2.2.2.2.1 d.2.2.2.2.2.1 d.2.2.2.2.2.2.1 d.2.2.2.2.2.2.2) fun x => k (ref_Mul_M1_fin d x).1 (ref_Mul_M1_fin d x).2 := by
  obtain ⟨s1, s7, m0_0, m0_1, m1_0, m1_1, m2_0, m2_1⟩ := d
  exact (show _ = ref_Mul_M1_t s1 s7 m1_0 m1_1 m2_0 m2_1 (fun x => k (ref_Mul_M1_fin (s1, s7, m0_0, m0_1, m1_0, m1_1, m2_0, m2_1) x).1 (ref_Mul_M1_fin (s1, s7, m0_0, m0_1, m1_0, m1_1, m2_0, m2_1) x).2) from by kernel_rfl).trans (ref_Mul_M1_t_eq s1 s7 m1_0 m1_1 m2_0 m2_1 _)
noncomputable def ref_Mul_M1_sp : CSpec := fun _ st k => reNorm 0 ref_Mul_M1_N ref_Mul_M1_A ref_Mul_M1_H st fun a m => outOf (ref_Mul_M1 (ref_Mul_M1_to a m).1 (ref_Mul_M1_to a m).2.1 (ref_Mul_M1_to a m).2.2.2.2.1 (ref_Mul_M1_to a m).2.2.2.2.2.1 (ref_Mul_M1_to a m).2.2.2.2.2.2.1 (ref_Mul_M1_to a m).2.2.2.2.2.2.2) fun v => k .normal ⟨[.any, .lit (.int .i64 (ref_Mul_M1_to a m).1), .any, .any, .ptr 0 0 0, .ptr 1 0 0, .ptr 2 0 0, .lit (.int .i64 (ref_Mul_M1_to a m).2.1), .any, .any, .any, .any, .any, .any, .any, .any, .any, .any, .any, .any, .any, .any, .any, .any, .any, .any, .any, .any, .any, .any, .any, .any, .any, .any, .any, .any, .any, .any, .any, .any, .any], [.box [.lit (.int .i64 (ref_Mul_M1_to a m).2.2.1), .lit (.int .i64 (ref_Mul_M1_to a m).2.2.2.1)], .box [.lit (.int .i64 v.1), .lit (.int .i64 v.2)], .box [.lit (.int .i64 (ref_Mul_M1_to a m).2.2.2.2.2.2.1), .lit (.int .i64 (ref_Mul_M1_to a m).2.2.2.2.2.2.2)]]⟩
theorem ref_Mul_M1_ok : SumOK Try.prog 0 ((codeAt (bodyOf Try.f33) [0, 0, 0, 1, 0, 0, 1, 0, 1, 1, 1]).getD .skip) ref_Mul_M1_sp := (SumOK.once R4_ok mixed ref_Mul_h0_ok (show codeAt (bodyOf Try.f33) [0, 0, 0, 1, 0, 0, 1, 0, 1, 1, 1] = some ((codeAt (bodyOf Try.f33) [0, 0, 0, 1, 0, 0, 1, 0, 1, 1, 1]).getD .skip) from by kernel_rfl) (N := ref_Mul_M1_N) (Nx := ref_Mul_M1_X) (A := ref_Mul_M1_A) (Hs := ref_Mul_M1_H) (toD := ref_Mul_M1_to) (ofA := ref_Mul_M1_ofA) (ofH := ref_Mul_M1_ofH) (fun _ _ => rfl) (fun _ _ => rfl) (M := fun d => ref_Mul_M1 d.1 d.2.1 d.2.2.2.2.1 d.2.2.2.2.2.1 d.2.2.2.2.2.2.1 d.2.2.2.2.2.2.2) (fin := ref_Mul_M1_fin) 60 ref_Mul_M1_ev).mono fun α st k r h => by
  refine Eq.trans (congrArg (reNorm 0 ref_Mul_M1_N ref_Mul_M1_A ref_Mul_M1_H st) ?_) h
  funext a m
  exact outOf_congr fun x => rfl
noncomputable def ref_Mul_M1_h : Hints := ref_Mul_h0.add [0, 0, 0, 1, 0, 0, 1, 0, 1, 1, 1] ref_Mul_M1_sp
theorem ref_Mul_M1_h_ok : ref_Mul_M1_h.OK Try.prog (bodyOf Try.f33) := ref_Mul_h0_ok.add (show codeAt (bodyOf Try.f33) [0, 0, 0, 1, 0, 0, 1, 0, 1, 1, 1] = some ((codeAt (bodyOf Try.f33) [0, 0, 0, 1, 0, 0, 1, 0, 1, 1, 1]).getD .skip) from by kernel_rfl) ref_Mul_M1_ok
def ref_Mul_M2_A : List SD := [.any, .val (.int .i64), .any, .any, .loc 0 0 0, .loc 1 0 0, .loc 2 0 0, .val (.int .i64), .any, .any, .any, .any, .any, .any, .any, .any, .any, .any, .any, .any, .any, .any, .any, .any, .any, .any, .any, .any, .any, .any, .any, .any, .any, .any, .any, .any, .any, .any, .any, .any, .any]
def ref_Mul_M2_H : List HD := [.box [.val (.int .i64), .val (.int .i64)], .box [.val (.int .i64), .val (.int .i64)], .box [.val (.int .i64), .val (.int .i64)]]
abbrev ref_Mul_M2_D : Type := Int × Int × Int × Int × Int × Int × Int × Int
def ref_Mul_M2_to (a : DenS ref_Mul_M2_A) (m : DenH ref_Mul_M2_H) : ref_Mul_M2_D := (a.2.1, a.2.2.2.2.2.2.2.1, m.1.1, m.1.2.1, m.2.1.1, m.2.1.2.1, m.2.2.1.1, m.2.2.1.2.1)
def ref_Mul_M2_ofA (d : ref_Mul_M2_D) : DenS ref_Mul_M2_A := match d with | (s1, s7, m0_0, m0_1, m1_0, m1_1, m2_0, m2_1) => ((), s1, (), (), (), (), (), s7, (), (), (), (), (), (), (), (), (), (), (), (), (), (), (), (), (), (), (), (), (), (), (), (), (), (), (), (), (), (), (), (), (), ())
def ref_Mul_M2_ofH (d : ref_Mul_M2_D) : DenH ref_Mul_M2_H := match d with | (s1, s7, m0_0, m0_1, m1_0, m1_1, m2_0, m2_1) => ((m0_0, m0_1, ()), (m1_0, m1_1, ()), (m2_0, m2_1, ()), ())
def ref_Mul_M2_N : Norm := (⟨[1, 4, 5, 6, 7], [], []⟩ : Norm)
def ref_Mul_M2_X : Exit → Norm := fun e => match e with | .normal => ⟨[1, 4, 5, 6, 7, 33], [], []⟩ | _ => ⟨[], [], []⟩
abbrev ref_Mul_M2_R : Type := (Bool)
def ref_Mul_M2_fin (d : ref_Mul_M2_D) (v : ref_Mul_M2_R) : Exit × St := (.normal, ⟨[.any, .lit (.int .i64 d.1), .any, .any, .ptr 0 0 0, .ptr 1 0 0, .ptr 2 0 0, .lit (.int .i64 d.2.1), .any, .any, .any, .any, .any, .any, .any, .any, .any, .any, .any, .any, .any, .any, .any, .any, .any, .any, .any, .any, .any, .any, .any, .any, .any, .lit (.bool v), .any, .any, .any, .any, .any, .any, .any], [.box [.lit (.int .i64 d.2.2.1), .lit (.int .i64 d.2.2.2.1)], .box [.lit (.int .i64 d.2.2.2.2.1), .lit (.int .i64 d.2.2.2.2.2.1)], .box [.lit (.int .i64 d.2.2.2.2.2.2.1), .lit (.int .i64 d.2.2.2.2.2.2.2)]]⟩)
noncomputable def ref_Mul_M2_t {γ : Type} (s1 : Int) (s7 : Int) (k : ref_Mul_M2_R → Option γ) : Option γ := outOf (ref_Bit s1 s7) fun (x3 : Int) => cond (x3 == (1 : Int)) (k (s7 == (63 : Int))) (k (false))
noncomputable def ref_Mul_M2 (s1 : Int) (s7 : Int) : Option ref_Mul_M2_R := ref_Mul_M2_t s1 s7 some
theorem ref_Mul_M2_t_eq {γ : Type} (s1 : Int) (s7 : Int) (k : ref_Mul_M2_R → Option γ) : ref_Mul_M2_t s1 s7 k = outOf (ref_Mul_M2 s1 s7) k := by
  delta ref_Mul_M2 ref_Mul_M2_t; exact (Tr.bd fun x3 => (Tr.nd Tr.lf Tr.lf))
theorem ref_Mul_M2_ev (α : Type) (d : ref_Mul_M2_D) (k : Exit → St → Option α) : ev Try.prog R4 ref_Mul_M1_h 60 [0, 0, 1, 0, 0, 1, 0, 0, 1, 0, 1, 1, 1] ((codeAt (bodyOf Try.f33) [0, 0, 1, 0, 0, 1, 0, 0, 1, 0, 1, 1, 1]).getD .skip) ⟨mkS ref_Mul_M2_A (ref_Mul_M2_ofA d), mkH ref_Mul_M2_H (ref_Mul_M2_ofH d)⟩ (exitN 0 ref_Mul_M2_X k) = outOf (ref_Mul_M2 d.1 d.2.1) fun x => k (ref_Mul_M2_fin d x).1 (ref_Mul_M2_fin d x).2 := by
  obtain ⟨s1, s7, m0_0, m0_1, m1_0, m1_1, m2_0, m2_1⟩ := d
  exact (show _ = ref_Mul_M2_t s1 s7 (fun x => k (ref_Mul_M2_fin (s1, s7, m0_0, m0_1, m1_0, m1_1, m2_0, m2_1) x).1 (ref_Mul_M2_fin (s1, s7, m0_0, m0_1, m1_0, m1_1, m2_0, m2_1) x).2) from by kernel_rfl).trans (ref_Mul_M2_t_eq s1 s7 _)
noncomputable def ref_Mul_M2_sp : CSpec := fun _ st k => reNorm 0 ref_Mul_M2_N ref_Mul_M2_A ref_Mul_M2_H st fun a m => outOf (ref_Mul_M2 (ref_Mul_M2_to a m).1 (ref_Mul_M2_to a m).2.1) fun v => k .normal ⟨[.any, .lit (.int .i64 (ref_Mul_M2_to a m).1), .any, .any, .ptr 0 0 0, .ptr 1 0 0, .ptr 2 0 0, .lit (.int .i64 (ref_Mul_M2_to a m).2.1), .any, .any, .any, .any, .any, .any, .any, .any, .any, .any, .any, .any, .any, .any, .any, .any, .any, .any, .any, .any, .any, .any, .any, .any, .any, .lit (.bool v), .any, .any, .any, .any, .any, .any, .any], [.box [.lit (.int .i64 (ref_Mul_M2_to a m).2.2.1), .lit (.int .i64 (ref_Mul_M2_to a m).2.2.2.1)], .box [.lit (.int .i64 (ref_Mul_M2_to a m).2.2.2.2.1), .lit (.int .i64 (ref_Mul_M2_to a m).2.2.2.2.2.1)], .box [.lit (.int .i64 (ref_Mul_M2_to a m).2.2.2.2.2.2.1), .lit (.int .i64 (ref_Mul_M2_to a m).2.2.2.2.2.2.2)]]⟩
theorem ref_Mul_M2_ok : SumOK Try.prog 0 ((codeAt (bodyOf Try.f33) [0, 0, 1, 0, 0, 1, 0, 0, 1, 0, 1, 1, 1]).getD .skip) ref_Mul_M2_sp := (SumOK.once R4_ok mixed ref_Mul_M1_h_ok (show codeAt (bodyOf Try.f33) [0, 0, 1, 0, 0, 1, 0, 0, 1, 0, 1, 1, 1] = some ((codeAt (bodyOf Try.f33) [0, 0, 1, 0, 0, 1, 0, 0, 1, 0, 1, 1, 1]).getD .skip) from by kernel_rfl) (N := ref_Mul_M2_N) (Nx := ref_Mul_M2_X) (A := ref_Mul_M2_A) (Hs := ref_Mul_M2_H) (toD := ref_Mul_M2_to) (ofA := ref_Mul_M2_ofA) (ofH := ref_Mul_M2_ofH) (fun _ _ => rfl) (fun _ _ => rfl) (M := fun d => ref_Mul_M2 d.1 d.2.1) (fin := ref_Mul_M2_fin) 60 ref_Mul_M2_ev).mono fun α st k r h => by
  refine Eq.trans (congrArg (reNorm 0 ref_Mul_M2_N ref_Mul_M2_A ref_Mul_M2_H st) ?_) h
  funext a m
  exact outOf_congr fun x => rfl
noncomputable def ref_Mul_M2_h : Hints := ref_Mul_M1_h.add [0, 0, 1, 0, 0, 1, 0, 0, 1, 0, 1, 1, 1] ref_Mul_M2_sp
theorem ref_Mul_M2_h_ok : ref_Mul_M2_h.OK Try.prog (bodyOf Try.f33) := ref_Mul_M1_h_ok.add (show codeAt (bodyOf Try.f33) [0, 0, 1, 0, 0, 1, 0, 0, 1, 0, 1, 1, 1] = some ((codeAt (bodyOf Try.f33) [0, 0, 1, 0, 0, 1, 0, 0, 1, 0, 1, 1, 1]).getD .skip) from by kernel_rfl) ref_Mul_M2_ok
abbrev ref_Mul_L1_R : Type := (Int × Int × Int × Int)
def ref_Mul_L1_fin (v : ref_Mul_L1_R) : Exit × St := ((.exit 0), ⟨[.any, .any, .any, .any, .ptr 0 0 0, .ptr 1 0 0, .any, .any, .any, .any, .any, .any, .any, .any, .any, .any, .any, .any, .any, .any, .any, .any, .any, .any, .any, .any, .any, .any, .any, .any, .any, .any, .any, .any, .any, .any, .any, .any, .any, .any, .any], [.box [.lit (.int .i64 v.1), .lit (.int .i64 v.2.1)], .box [.lit (.int .i64 v.2.2.1), .lit (.int .i64 v.2.2.2)]]⟩)
noncomputable def ref_Mul_L1_t {γ : Type} (s1 : Int) (s7 : Int) (m0_0 : Int) (m0_1 : Int) (m1_0 : Int) (m1_1 : Int) (m2_0 : Int) (m2_1 : Int) (next : ref_Mul_L1_D → Option γ) (out : ref_Mul_L1_R → Option γ) : Option γ := cond (decide (s7 < (64 : Int))) (outOf (ref_Mul_M1 s1 s7 m1_0 m1_1 m2_0 m2_1) fun (x4 : (Int × Int)) => outOf (ref_Mul_M2 s1 s7) fun (x5 : Bool) => cond x5 (outOf (ref_Neg m2_0 m2_1) fun (x6 : (Int × Int)) => outOf (ref_Add (Prod.fst x4) (Prod.snd x4) (Prod.fst x6) (Prod.snd x6)) fun (x7 : (Int × Int)) => outOf (ref_twice m2_0 m2_1) fun (x8 : (Int × Int)) => next (s1, IntKind.wrap IntKind.i64 (s7 + (1 : Int)), m0_0, m0_1, Prod.fst x7, Prod.snd x7, Prod.fst x8, Prod.snd x8)) (outOf (ref_twice m2_0 m2_1) fun (x9 : (Int × Int)) => next (s1, IntKind.wrap IntKind.i64 (s7 + (1 : Int)), m0_0, m0_1, Prod.fst x4, Prod.snd x4, Prod.fst x9, Prod.snd x9))) (out (m0_0, m0_1, m1_0, m1_1))
noncomputable def ref_Mul_L1_pass (d : ref_Mul_L1_D) : Option (ref_Mul_L1_D ⊕ ref_Mul_L1_R) := ref_Mul_L1_t d.1 d.2.1 d.2.2.1 d.2.2.2.1 d.2.2.2.2.1 d.2.2.2.2.2.1 d.2.2.2.2.2.2.1 d.2.2.2.2.2.2.2 (fun d => some (.inl d)) (fun x => some (.inr x))
theorem ref_Mul_L1_t_eq {γ : Type} (s1 : Int) (s7 : Int) (m0_0 : Int) (m0_1 : Int) (m1_0 : Int) (m1_1 : Int) (m2_0 : Int) (m2_1 : Int) (next : ref_Mul_L1_D → Option γ) (out : ref_Mul_L1_R → Option γ) : ref_Mul_L1_t s1 s7 m0_0 m0_1 m1_0 m1_1 m2_0 m2_1 next out = PassOf (ref_Mul_L1_t s1 s7 m0_0 m0_1 m1_0 m1_1 m2_0 m2_1 (fun d => some (.inl d)) (fun x => some (.inr x))) next out := by
  delta ref_Mul_L1_t; exact (Ps.nd (Ps.bd fun x4 => (Ps.bd fun x5 => (Ps.nd (Ps.bd fun x6 => (Ps.bd fun x7 => (Ps.bd fun x8 => Ps.nx))) (Ps.bd fun x9 => Ps.nx)))) Ps.ou)
theorem ref_Mul_L1_ev (α : Type) (d : ref_Mul_L1_D) (next : ref_Mul_L1_D → Option α) (k : Exit → St → Option α) : ev Try.prog R4 ref_Mul_M2_h 60 [0, 0, 1, 0, 1, 1, 1] ((codeAt (bodyOf Try.f33) [0, 0, 1, 0, 1, 1, 1]).getD .skip) ⟨mkS ref_Mul_L1_A (ref_Mul_L1_ofA d), mkH ref_Mul_L1_H (ref_Mul_L1_ofH d)⟩ (passK 0 ref_Mul_L1_N ref_Mul_L1_A ref_Mul_L1_H ref_Mul_L1_X (fun a m => next (ref_Mul_L1_to a m)) k) = PassOf (ref_Mul_L1_pass d) next fun x => k (ref_Mul_L1_fin x).1 (ref_Mul_L1_fin x).2 := by
  obtain ⟨s1, s7, m0_0, m0_1, m1_0, m1_1, m2_0, m2_1⟩ := d
  exact (show _ = ref_Mul_L1_t s1 s7 m0_0 m0_1 m1_0 m1_1 m2_0 m2_1 next (fun x => k (ref_Mul_L1_fin x).1 (ref_Mul_L1_fin x).2) from by kernel_rfl).trans (ref_Mul_L1_t_eq s1 s7 m0_0 m0_1 m1_0 m1_1 m2_0 m2_1 _ _)
noncomputable def ref_Mul_L1 (d : ref_Mul_L1_D) : Option ref_Mul_L1_R := runs ref_Mul_L1_pass d
noncomputable def ref_Mul_L1_sp : CSpec := fun _ st k => reNorm 0 ref_Mul_L1_N ref_Mul_L1_A ref_Mul_L1_H st fun a m => outOf (ref_Mul_L1 (ref_Mul_L1_to a m)) fun v => k (.exit 0) ⟨[.any, .any, .any, .any, .ptr 0 0 0, .ptr 1 0 0, .any, .any, .any, .any, .any, .any, .any, .any, .any, .any, .any, .any, .any, .any, .any, .any, .any, .any, .any, .any, .any, .any, .any, .any, .any, .any, .any, .any, .any, .any, .any, .any, .any, .any, .any], [.box [.lit (.int .i64 v.1), .lit (.int .i64 v.2.1)], .box [.lit (.int .i64 v.2.2.1), .lit (.int .i64 v.2.2.2)]]⟩
theorem ref_Mul_L1_ok : SumOK Try.prog 0 (.loop ((codeAt (bodyOf Try.f33) [0, 0, 1, 0, 1, 1, 1]).getD .skip)) ref_Mul_L1_sp := (SumOK.loop R4_ok mixed ref_Mul_M2_h_ok (show codeAt (bodyOf Try.f33) [0, 1, 0, 1, 1, 1] = some (.loop ((codeAt (bodyOf Try.f33) [0, 0, 1, 0, 1, 1, 1]).getD .skip)) from by kernel_rfl) (N := ref_Mul_L1_N) (Nx := ref_Mul_L1_X) (A := ref_Mul_L1_A) (Hs := ref_Mul_L1_H) (toD := ref_Mul_L1_to) (ofA := ref_Mul_L1_ofA) (ofH := ref_Mul_L1_ofH) (fun _ _ => rfl) (fun _ _ => rfl) (pass := ref_Mul_L1_pass) (fin := ref_Mul_L1_fin) 60 ref_Mul_L1_ev (steps ref_Mul_L1_pass)).mono fun α st k r h => by
  refine Eq.trans (congrArg (reNorm 0 ref_Mul_L1_N ref_Mul_L1_A ref_Mul_L1_H st) ?_) h
  funext a m
  exact outOf_congr fun x => rfl
noncomputable def ref_Mul_L1_h : Hints := ref_Mul_M2_h.add [0, 1, 0, 1, 1, 1] ref_Mul_L1_sp
theorem ref_Mul_L1_h_ok : ref_Mul_L1_h.OK Try.prog (bodyOf Try.f33) := ref_Mul_M2_h_ok.add (show codeAt (bodyOf Try.f33) [0, 1, 0, 1, 1, 1] = some (.loop ((codeAt (bodyOf Try.f33) [0, 0, 1, 0, 1, 1, 1]).getD .skip)) from by kernel_rfl) ref_Mul_L1_ok
abbrev ref_Mul_R : Type := (Int × Int)
noncomputable def ref_Mul_t {γ : Type} (a0 : Int) (a1 : Int) (k : ref_Mul_R → Option γ) : Option γ := outOf (ref_Of a0) fun (x10 : (Int × Int)) => outOf (ref_Mul_L1 (a1, (0 : Int), (0 : Int), (0 : Int), (0 : Int), (0 : Int), Prod.fst x10, Prod.snd x10)) fun (x11 : (Int × (Int × (Int × Int)))) => k (Prod.fst (Prod.snd (Prod.snd x11)), Prod.snd (Prod.snd (Prod.snd x11)))
noncomputable def ref_Mul (a0 : Int) (a1 : Int) : Option ref_Mul_R := ref_Mul_t a0 a1 some
theorem ref_Mul_t_eq {γ : Type} (a0 : Int) (a1 : Int) (k : ref_Mul_R → Option γ) : ref_Mul_t a0 a1 k = outOf (ref_Mul a0 a1) k := by
  delta ref_Mul ref_Mul_t; exact (Tr.bd fun x10 => (Tr.bd fun x11 => Tr.lf))
noncomputable def ref_Mul_sp : TX.Spec := specD [.val (.int .i64), .val (.int .i64)] [] fun _ a m k => match a, m with | ⟨a0, a1, _⟩, _ => outOf (ref_Mul a0 a1) fun v => k (.agg [.lit (.int .i64 v.1), .lit (.int .i64 v.2)]) []
theorem ref_Mul_ev {α : Type} (a0 : Int) (a1 : Int) (k : Kont α) : evFun Try.prog R4 (ref_Mul_L1_h) false Try.f33 (bodyOf Try.f33) 60 (mkS [.val (.int .i64), .val (.int .i64)] (a0, a1, ())) (mkH [] ()) k = outOf (ref_Mul a0 a1) fun v => k (.agg [.lit (.int .i64 v.1), .lit (.int .i64 v.2)]) [] :=
  (show _ = ref_Mul_t a0 a1 (fun v => k (.agg [.lit (.int .i64 v.1), .lit (.int .i64 v.2)]) []) from by kernel_rfl).trans (ref_Mul_t_eq a0 a1 _)
theorem ref_Mul_good : TX.Good Try.prog 33 ref_Mul_sp := good_form R4_ok mixed Try.func33 (body_of rfl) (by kernel_rfl) false fun α a m k r h => by
  obtain ⟨a0, a1, _⟩ := a; obtain _ := m
  exact ⟨ref_Mul_L1_h, 60, ref_Mul_L1_h_ok, rfl, (ref_Mul_ev a0 a1 k).trans h⟩
/-! f59 tenterhook/tenterhookref02.divide -/
def ref_divide_h0 : Hints := Hints.nil 0
theorem ref_divide_h0_ok : ref_divide_h0.OK Try.prog (bodyOf Try.f59) := Hints.nil_ok
def ref_divide_L1_A : List SD := [.any, .any, .any, .any, .any, .loc 0 0 0, .loc 1 0 0, .val (.sl (.int .i64)), .rowz 2, .loc 3 0 0, .val (.int .i64), .any, .any, .any, .any, .any, .any, .any, .any, .any, .any, .any, .any, .any, .any, .any, .any, .any, .any, .any, .any, .any, .any, .any, .any, .any, .any, .any, .any, .any, .any, .any, .any, .any]
def ref_divide_L1_H : List HD := [.box [.val (.int .i64), .val (.int .i64)], .box [.val (.int .i64), .val (.int .i64)], .row (.int .i64), .box [.val (.int .i64), .val (.int .i64)]]
abbrev ref_divide_L1_D : Type := (List (Sh.Den (.int .i64))) × Nat × Int × Int × Int × Int × Int × (List (Sh.Den (.int .i64))) × Int × Int
def ref_divide_L1_to (a : DenS ref_divide_L1_A) (m : DenH ref_divide_L1_H) : ref_divide_L1_D := (a.2.2.2.2.2.2.2.1, a.2.2.2.2.2.2.2.2.1, a.2.2.2.2.2.2.2.2.2.2.1, m.1.1, m.1.2.1, m.2.1.1, m.2.1.2.1, m.2.2.1, m.2.2.2.1.1, m.2.2.2.1.2.1)
def ref_divide_L1_ofA (d : ref_divide_L1_D) : DenS ref_divide_L1_A := match d with | (s7, s8_n, s10, m0_0, m0_1, m1_0, m1_1, m2, m3_0, m3_1) => ((), (), (), (), (), (), (), s7, s8_n, (), s10, (), (), (), (), (), (), (), (), (), (), (), (), (), (), (), (), (), (), (), (), (), (), (), (), (), (), (), (), (), (), (), (), (), ())
def ref_divide_L1_ofH (d : ref_divide_L1_D) : DenH ref_divide_L1_H := match d with | (s7, s8_n, s10, m0_0, m0_1, m1_0, m1_1, m2, m3_0, m3_1) => ((m0_0, m0_1, ()), (m1_0, m1_1, ()), m2, (m3_0, m3_1, ()), ())
def ref_divide_L1_N : Norm := (⟨[5, 6, 7, 8, 9, 10], [], []⟩ : Norm)
def ref_divide_L1_X : Exit → Norm := fun e => match e with | .exit 0 => ⟨[5, 6, 8], [], []⟩ | _ => ⟨[], [], []⟩
abbrev ref_divide_L1_R : Type := (Nat × Int × Int × Int × Int × (List Int))
def ref_divide_L1_fin (v : ref_divide_L1_R) : Exit × St := ((.exit 0), ⟨[.any, .any, .any, .any, .any, .ptr 0 0 0, .ptr 1 0 0, .any, .msl 2 0 v.1, .any, .any, .any, .any, .any, .any, .any, .any, .any, .any, .any, .any, .any, .any, .any, .any, .any, .any, .any, .any, .any, .any, .any, .any, .any, .any, .any, .any, .any, .any, .any, .any, .any, .any, .any], [.box [.lit (.int .i64 v.2.1), .lit (.int .i64 v.2.2.1)], .box [.lit (.int .i64 v.2.2.2.1), .lit (.int .i64 v.2.2.2.2.1)], .row (.int .i64) v.2.2.2.2.2]⟩)
noncomputable def ref_divide_L1_t {γ : Type} (s7 : (List (Sh.Den (.int .i64)))) (s8_n : Nat) (s10 : Int) (m0_0 : Int) (m0_1 : Int) (m1_0 : Int) (m1_1 : Int) (m2 : (List (Sh.Den (.int .i64)))) (m3_0 : Int) (m3_1 : Int) (next : ref_divide_L1_D → Option γ) (out : ref_divide_L1_R → Option γ) : Option γ := cond (decide (s10 ≥ (0 : Int))) (outOf (ref_twice m1_0 m1_1) fun (x1 : (Int × Int)) => cond (decide ((0 : Int) ≤ s10 ∧ s10 < (↑(List.length s7) : Int))) (outOf (ref_Add (Prod.fst x1) (Prod.snd x1) (List.getD s7 (Int.toNat s10) (0 : Int)) (0 : Int)) fun (x2 : (Int × Int)) => outOf (ref_less (Prod.fst x2) (Prod.snd x2) m3_0 m3_1) fun (x3 : Bool) => cond (!x3) (outOf (ref_Neg m3_0 m3_1) fun (x4 : (Int × Int)) => outOf (ref_Add (Prod.fst x2) (Prod.snd x2) (Prod.fst x4) (Prod.snd x4)) fun (x5 : (Int × Int)) => cond (decide ((0 : Int) ≤ s10 ∧ s10 < (↑s8_n : Int))) (next (s7, s8_n, IntKind.wrap IntKind.i64 (s10 - (1 : Int)), m0_0, m0_1, Prod.fst x5, Prod.snd x5, List.set m2 ((0 : Nat) + Int.toNat s10) (1 : Int), m3_0, m3_1)) (none)) (next (s7, s8_n, IntKind.wrap IntKind.i64 (s10 - (1 : Int)), m0_0, m0_1, Prod.fst x2, Prod.snd x2, m2, m3_0, m3_1))) (none)) (out (s8_n, m0_0, m0_1, m1_0, m1_1, m2))
noncomputable def ref_divide_L1_pass (d : ref_divide_L1_D) : Option (ref_divide_L1_D ⊕ ref_divide_L1_R) := ref_divide_L1_t d.1 d.2.1 d.2.2.1 d.2.2.2.1 d.2.2.2.2.1 d.2.2.2.2.2.1 d.2.2.2.2.2.2.1 d.2.2.2.2.2.2.2.1 d.2.2.2.2.2.2.2.2.1 d.2.2.2.2.2.2.2.2.2 (fun d => some (.inl d)) (fun x => some (.inr x))
theorem ref_divide_L1_t_eq {γ : Type} (s7 : (List (Sh.Den (.int .i64)))) (s8_n : Nat) (s10 : Int) (m0_0 : Int) (m0_1 : Int) (m1_0 : Int) (m1_1 : Int) (m2 : (List (Sh.Den (.int .i64)))) (m3_0 : Int) (m3_1 : Int) (next : ref_divide_L1_D → Option γ) (out : ref_divide_L1_R → Option γ) : ref_divide_L1_t s7 s8_n s10 m0_0 m0_1 m1_0 m1_1 m2 m3_0 m3_1 next out = PassOf (ref_divide_L1_t s7 s8_n s10 m0_0 m0_1 m1_0 m1_1 m2 m3_0 m3_1 (fun d => some (.inl d)) (fun x => some (.inr x))) next out := by
  delta ref_divide_L1_t; exact (Ps.nd (Ps.bd fun x1 => (Ps.nd (Ps.bd fun x2 => (Ps.bd fun x3 => (Ps.nd (Ps.bd fun x4 => (Ps.bd fun x5 => (Ps.nd Ps.nx Ps.no))) Ps.nx))) Ps.no)) Ps.ou)
theorem ref_divide_L1_ev (α : Type) (d : ref_divide_L1_D) (next : ref_divide_L1_D → Option α) (k : Exit → St → Option α) : ev Try.prog R4 ref_divide_h0 60 [0, 0, 1, 0, 1, 1, 1, 1, 1] ((codeAt (bodyOf Try.f59) [0, 0, 1, 0, 1, 1, 1, 1, 1]).getD .skip) ⟨mkS ref_divide_L1_A (ref_divide_L1_ofA d), mkH ref_divide_L1_H (ref_divide_L1_ofH d)⟩ (passK 0 ref_divide_L1_N ref_divide_L1_A ref_divide_L1_H ref_divide_L1_X (fun a m => next (ref_divide_L1_to a m)) k) = PassOf (ref_divide_L1_pass d) next fun x => k (ref_divide_L1_fin x).1 (ref_divide_L1_fin x).2 := by
  obtain ⟨s7, s8_n, s10, m0_0, m0_1, m1_0, m1_1, m2, m3_0, m3_1⟩ := d
  exact (show _ = ref_divide_L1_t s7 s8_n s10 m0_0 m0_1 m1_0 m1_1 m2 m3_0 m3_1 next (fun x => k (ref_divide_L1_fin x).1 (ref_divide_L1_fin x).2) from by kernel_rfl).trans (ref_divide_L1_t_eq s7 s8_n s10 m0_0 m0_1 m1_0 m1_1 m2 m3_0 m3_1 _ _)
noncomputable def ref_divide_L1 (d : ref_divide_L1_D) : Option ref_divide_L1_R := runs ref_divide_L1_pass d
noncomputable def ref_divide_L1_sp : CSpec := fun _ st k => reNorm 0 ref_divide_L1_N ref_divide_L1_A ref_divide_L1_H st fun a m => outOf (ref_divide_L1 (ref_divide_L1_to a m)) fun v => k (.exit 0) ⟨[.any, .any, .any, .any, .any, .ptr 0 0 0, .ptr 1 0 0, .any, .msl 2 0 v.1, .any, .any, .any, .any, .any, .any, .any, .any, .any, .any, .any, .any, .any, .any, .any, .any, .any, .any, .any, .any, .any, .any, .any, .any, .any, .any, .any, .any, .any, .any, .any, .any, .any, .any, .any], [.box [.lit (.int .i64 v.2.1), .lit (.int .i64 v.2.2.1)], .box [.lit (.int .i64 v.2.2.2.1), .lit (.int .i64 v.2.2.2.2.1)], .row (.int .i64) v.2.2.2.2.2]⟩
theorem ref_divide_L1_ok : SumOK Try.prog 0 (.loop ((codeAt (bodyOf Try.f59) [0, 0, 1, 0, 1, 1, 1, 1, 1]).getD .skip)) ref_divide_L1_sp := (SumOK.loop R4_ok mixed ref_divide_h0_ok (show codeAt (bodyOf Try.f59) [0, 1, 0, 1, 1, 1, 1, 1] = some (.loop ((codeAt (bodyOf Try.f59) [0, 0, 1, 0, 1, 1, 1, 1, 1]).getD .skip)) from by kernel_rfl) (N := ref_divide_L1_N) (Nx := ref_divide_L1_X) (A := ref_divide_L1_A) (Hs := ref_divide_L1_H) (toD := ref_divide_L1_to) (ofA := ref_divide_L1_ofA) (ofH := ref_divide_L1_ofH) (fun _ _ => rfl) (fun _ _ => rfl) (pass := ref_divide_L1_pass) (fin := ref_divide_L1_fin) 60 ref_divide_L1_ev (steps ref_divide_L1_pass)).mono fun α st k r h => by
  refine Eq.trans (congrArg (reNorm 0 ref_divide_L1_N ref_divide_L1_A ref_divide_L1_H st) ?_) h
  funext a m
  exact outOf_congr fun x => rfl
noncomputable def ref_divide_L1_h : Hints := ref_divide_h0.add [0, 1, 0, 1, 1, 1, 1, 1] ref_divide_L1_sp
theorem ref_divide_L1_h_ok : ref_divide_L1_h.OK Try.prog (bodyOf Try.f59) := ref_divide_h0_ok.add (show codeAt (bodyOf Try.f59) [0, 1, 0, 1, 1, 1, 1, 1] = some (.loop ((codeAt (bodyOf Try.f59) [0, 0, 1, 0, 1, 1, 1, 1, 1]).getD .skip)) from by kernel_rfl) ref_divide_L1_ok
abbrev ref_divide_R : Type := (Int × Int × Int)
noncomputable def ref_divide_t {γ : Type} (a0_0 : Int) (a0_1 : Int) (a1 : Int) (k : ref_divide_R → Option γ) : Option γ := outOf (ref_bits a0_0 a0_1) fun (x6 : (List Int)) => outOf (ref_divide_L1 (x6, (128 : Nat), (127 : Int), (0 : Int), (0 : Int), (0 : Int), (0 : Int), List.replicate (128 : Nat) (0 : Int), a1, (0 : Int))) fun (x7 : (Nat × (Int × (Int × (Int × (Int × (List Int))))))) => outOf (ref_make2 (List.take (Prod.fst x7) (List.drop (0 : Nat) (Prod.snd (Prod.snd (Prod.snd (Prod.snd (Prod.snd x7)))))))) fun (x8 : (Int × Int)) => k (Prod.fst (Prod.snd (Prod.snd (Prod.snd x7))), Prod.fst x8, Prod.snd x8)
noncomputable def ref_divide (a0_0 : Int) (a0_1 : Int) (a1 : Int) : Option ref_divide_R := ref_divide_t a0_0 a0_1 a1 some
theorem ref_divide_t_eq {γ : Type} (a0_0 : Int) (a0_1 : Int) (a1 : Int) (k : ref_divide_R → Option γ) : ref_divide_t a0_0 a0_1 a1 k = outOf (ref_divide a0_0 a0_1 a1) k := by
  delta ref_divide ref_divide_t; exact (Tr.bd fun x6 => (Tr.bd fun x7 => (Tr.bd fun x8 => Tr.lf)))
noncomputable def ref_divide_sp : TX.Spec := specD [.agg (.pair (.int .i64) (.int .i64)), .val (.int .i64)] [] fun _ a m k => match a, m with | ⟨⟨a0_0, a0_1⟩, a1, _⟩, _ => outOf (ref_divide a0_0 a0_1 a1) fun v => k (.tup [.lit (.int .i64 v.1), .agg [.lit (.int .i64 v.2.1), .lit (.int .i64 v.2.2)]]) []
theorem ref_divide_ev {α : Type} (a0_0 : Int) (a0_1 : Int) (a1 : Int) (k : Kont α) : evFun Try.prog R4 (ref_divide_L1_h) false Try.f59 (bodyOf Try.f59) 60 (mkS [.agg (.pair (.int .i64) (.int .i64)), .val (.int .i64)] ((a0_0, a0_1), a1, ())) (mkH [] ()) k = outOf (ref_divide a0_0 a0_1 a1) fun v => k (.tup [.lit (.int .i64 v.1), .agg [.lit (.int .i64 v.2.1), .lit (.int .i64 v.2.2)]]) [] :=
  (show _ = ref_divide_t a0_0 a0_1 a1 (fun v => k (.tup [.lit (.int .i64 v.1), .agg [.lit (.int .i64 v.2.1), .lit (.int .i64 v.2.2)]]) []) from by kernel_rfl).trans (ref_divide_t_eq a0_0 a0_1 a1 _)
theorem ref_divide_good : TX.Good Try.prog 59 ref_divide_sp := good_form R4_ok mixed Try.func59 (body_of rfl) (by kernel_rfl) false fun α a m k r h => by
  obtain ⟨⟨a0_0, a0_1⟩, a1, _⟩ := a; obtain _ := m
  exact ⟨ref_divide_L1_h, 60, ref_divide_L1_h_ok, rfl, (ref_divide_ev a0_0 a0_1 a1 k).trans h⟩
noncomputable def R5 : Env := R4.add 32 true ref_UMul_sp |>.add 33 true ref_Mul_sp |>.add 59 true ref_divide_sp
theorem R5_ok : R5.OK Try.prog := ((R4_ok.add_ok ref_UMul_good).add_ok ref_Mul_good).add_ok ref_divide_good
/-! f37 tenterhook/tenterhookref02.UMod -/
def ref_UMod_h0 : Hints := Hints.nil 0
theorem ref_UMod_h0_ok : ref_UMod_h0.OK Try.prog (bodyOf Try.f37) := Hints.nil_ok
abbrev ref_UMod_R : Type := (Int × Int × Int)
noncomputable def ref_UMod_t {γ : Type} (a0_0 : Int) (a0_1 : Int) (a1 : Int) (k : ref_UMod_R → Option γ) : Option γ := cond (a1 == (0 : Int)) (k ((0 : Int), (0 : Int), (-10 : Int))) (outOf (ref_divide a0_0 a0_1 a1) fun (x1 : (Int × (Int × Int))) => cond (Prod.snd (Prod.snd x1) != (0 : Int)) (k ((0 : Int), (0 : Int), (-11 : Int))) (k (Prod.fst x1, Prod.fst (Prod.snd x1), (0 : Int))))
noncomputable def ref_UMod (a0_0 : Int) (a0_1 : Int) (a1 : Int) : Option ref_UMod_R := ref_UMod_t a0_0 a0_1 a1 some
theorem ref_UMod_t_eq {γ : Type} (a0_0 : Int) (a0_1 : Int) (a1 : Int) (k : ref_UMod_R → Option γ) : ref_UMod_t a0_0 a0_1 a1 k = outOf (ref_UMod a0_0 a0_1 a1) k := by
  delta ref_UMod ref_UMod_t; exact (Tr.nd Tr.lf (Tr.bd fun x1 => (Tr.nd Tr.lf Tr.lf)))
noncomputable def ref_UMod_sp : TX.Spec := specD [.agg (.pair (.int .i64) (.int .i64)), .val (.int .i64)] [] fun _ a m k => match a, m with | ⟨⟨a0_0, a0_1⟩, a1, _⟩, _ => outOf (ref_UMod a0_0 a0_1 a1) fun v => k (.tup [.lit (.int .i64 v.1), .lit (.int .i64 v.2.1), .lit (.int .i64 v.2.2)]) []
theorem ref_UMod_ev {α : Type} (a0_0 : Int) (a0_1 : Int) (a1 : Int) (k : Kont α) : evFun Try.prog R5 (ref_UMod_h0) false Try.f37 (bodyOf Try.f37) 60 (mkS [.agg (.pair (.int .i64) (.int .i64)), .val (.int .i64)] ((a0_0, a0_1), a1, ())) (mkH [] ()) k = outOf (ref_UMod a0_0 a0_1 a1) fun v => k (.tup [.lit (.int .i64 v.1), .lit (.int .i64 v.2.1), .lit (.int .i64 v.2.2)]) [] :=
  (show _ = ref_UMod_t a0_0 a0_1 a1 (fun v => k (.tup [.lit (.int .i64 v.1), .lit (.int .i64 v.2.1), .lit (.int .i64 v.2.2)]) []) from by kernel_rfl).trans (ref_UMod_t_eq a0_0 a0_1 a1 _)
theorem ref_UMod_good : TX.Good Try.prog 37 ref_UMod_sp := good_form R5_ok mixed Try.func37 (body_of rfl) (by kernel_rfl) false fun α a m k r h => by
  obtain ⟨⟨a0_0, a0_1⟩, a1, _⟩ := a; obtain _ := m
  exact ⟨ref_UMod_h0, 60, ref_UMod_h0_ok, rfl, (ref_UMod_ev a0_0 a0_1 a1 k).trans h⟩
/-! f38 tenterhook/tenterhookref02.Symm -/
def ref_Symm_h0 : Hints := Hints.nil 0
theorem ref_Symm_h0_ok : ref_Symm_h0.OK Try.prog (bodyOf Try.f38) := Hints.nil_ok
def ref_Symm_M1_A : List SD := [.any, .val (.int .i64), .loc 0 0 0, .any, .any, .any, .any, .loc 1 0 0, .any, .any, .any, .any, .any, .any, .any, .any, .any, .any, .any, .any, .any, .any, .any, .any, .any, .any, .any, .any, .any, .any, .any, .any, .any, .any, .any, .any, .any, .any, .any, .any, .any, .any, .any, .any, .any, .any, .any, .any, .any, .any, .any, .any, .any, .any]
def ref_Symm_M1_H : List HD := [.box [.val (.int .i64), .val (.int .i64)], .box [.val (.int .i64), .val (.int .i64)]]
abbrev ref_Symm_M1_D : Type := Int × Int × Int × Int × Int
def ref_Symm_M1_to (a : DenS ref_Symm_M1_A) (m : DenH ref_Symm_M1_H) : ref_Symm_M1_D := (a.2.1, m.1.1, m.1.2.1, m.2.1.1, m.2.1.2.1)
def ref_Symm_M1_ofA (d : ref_Symm_M1_D) : DenS ref_Symm_M1_A := match d with | (s1, m0_0, m0_1, m1_0, m1_1) => ((), s1, (), (), (), (), (), (), (), (), (), (), (), (), (), (), (), (), (), (), (), (), (), (), (), (), (), (), (), (), (), (), (), (), (), (), (), (), (), (), (), (), (), (), (), (), (), (), (), (), (), (), (), (), ())
def ref_Symm_M1_ofH (d : ref_Symm_M1_D) : DenH ref_Symm_M1_H := match d with | (s1, m0_0, m0_1, m1_0, m1_1) => ((m0_0, m0_1, ()), (m1_0, m1_1, ()), ())
def ref_Symm_M1_N : Norm := (⟨[1, 2, 7], [], []⟩ : Norm)
def ref_Symm_M1_X : Exit → Norm := fun e => match e with | .normal => ⟨[1, 2, 7], [], []⟩ | _ => ⟨[], [], []⟩
abbrev ref_Symm_M1_R : Type := (Int × Int)
def ref_Symm_M1_fin (d : ref_Symm_M1_D) (v : ref_Symm_M1_R) : Exit × St := (.normal, ⟨[.any, .lit (.int .i64 d.1), .ptr 0 0 0, .any, .any, .any, .any, .ptr 1 0 0, .any, .any, .any, .any, .any, .any, .any, .any, .any, .any, .any, .any, .any, .any, .any, .any, .any, .any, .any, .any, .any, .any, .any, .any, .any, .any, .any, .any, .any, .any, .any, .any, .any, .any, .any, .any, .any, .any, .any, .any, .any, .any, .any, .any, .any, .any], [.box [.lit (.int .i64 d.2.1), .lit (.int .i64 d.2.2.1)], .box [.lit (.int .i64 v.1), .lit (.int .i64 v.2)]]⟩)
noncomputable def ref_Symm_M1_t {γ : Type} (m0_0 : Int) (m0_1 : Int) (m1_0 : Int) (m1_1 : Int) (k : ref_Symm_M1_R → Option γ) : Option γ := cond (decide (m0_1 < (0 : Int))) (outOf (ref_Neg m0_0 m0_1) fun (x1 : (Int × Int)) => k (Prod.fst x1, Prod.snd x1)) (k (m1_0, m1_1))
noncomputable def ref_Symm_M1 (m0_0 : Int) (m0_1 : Int) (m1_0 : Int) (m1_1 : Int) : Option ref_Symm_M1_R := ref_Symm_M1_t m0_0 m0_1 m1_0 m1_1 some
theorem ref_Symm_M1_t_eq {γ : Type} (m0_0 : Int) (m0_1 : Int) (m1_0 : Int) (m1_1 : Int) (k : ref_Symm_M1_R → Option γ) : ref_Symm_M1_t m0_0 m0_1 m1_0 m1_1 k = outOf (ref_Symm_M1 m0_0 m0_1 m1_0 m1_1) k := by
  delta ref_Symm_M1 ref_Symm_M1_t; exact (Tr.nd (Tr.bd fun x1 => Tr.lf) Tr.lf)
theorem ref_Symm_M1_ev (α : Type) (d : ref_Symm_M1_D) (k : Exit → St → Option α) : ev Try.prog R5 ref_Symm_h0 60 [0, 1, 1, 1] ((codeAt (bodyOf Try.f38) [0, 1, 1, 1]).getD .skip) ⟨mkS ref_Symm_M1_A (ref_Symm_M1_ofA d), mkH ref_Symm_M1_H (ref_Symm_M1_ofH d)⟩ (exitN 0 ref_Symm_M1_X k) = outOf (ref_Symm_M1 d.2.1 d.2.2.1 d.2.2.2.1 d.2.2.2.2) fun x => k (ref_Symm_M1_fin d x).1 (ref_Symm_M1_fin d x).2 := by
  obtain ⟨s1, m0_0, m0_1, m1_0, m1_1⟩ := d
  exact (show _ = ref_Symm_M1_t m0_0 m0_1 m1_0 m1_1 (fun x => k (ref_Symm_M1_fin (s1, m0_0, m0_1, m1_0, m1_1) x).1 (ref_Symm_M1_fin (s1, m0_0, m0_1, m1_0, m1_1) x).2) from by kernel_rfl).trans (ref_Symm_M1_t_eq m0_0 m0_1 m1_0 m1_1 _)
noncomputable def ref_Symm_M1_sp : CSpec := fun _ st k => reNorm 0 ref_Symm_M1_N ref_Symm_M1_A ref_Symm_M1_H st fun a m => outOf (ref_Symm_M1 (ref_Symm_M1_to a m).2.1 (ref_Symm_M1_to a m).2.2.1 (ref_Symm_M1_to a m).2.2.2.1 (ref_Symm_M1_to a m).2.2.2.2) fun v => k .normal ⟨[.any, .lit (.int .i64 (ref_Symm_M1_to a m).1), .ptr 0 0 0, .any, .any, .any, .any, .ptr 1 0 0, .any, .any, .any, .any, .any, .any, .any, .any, .any, .any, .any, .any, .any, .any, .any, .any, .any, .any, .any, .any, .any, .any, .any, .any, .any, .any, .any, .any, .any, .any, .any, .any, .any, .any, .any, .any, .any, .any, .any, .any, .any, .any, .any, .any, .any, .any], [.box [.lit (.int .i64 (ref_Symm_M1_to a m).2.1), .lit (.int .i64 (ref_Symm_M1_to a m).2.2.1)], .box [.lit (.int .i64 v.1), .lit (.int .i64 v.2)]]⟩
theorem ref_Symm_M1_ok : SumOK Try.prog 0 ((codeAt (bodyOf Try.f38) [0, 1, 1, 1]).getD .skip) ref_Symm_M1_sp := (SumOK.once R5_ok mixed ref_Symm_h0_ok (show codeAt (bodyOf Try.f38) [0, 1, 1, 1] = some ((codeAt (bodyOf Try.f38) [0, 1, 1, 1]).getD .skip) from by kernel_rfl) (N := ref_Symm_M1_N) (Nx := ref_Symm_M1_X) (A := ref_Symm_M1_A) (Hs := ref_Symm_M1_H) (toD := ref_Symm_M1_to) (ofA := ref_Symm_M1_ofA) (ofH := ref_Symm_M1_ofH) (fun _ _ => rfl) (fun _ _ => rfl) (M := fun d => ref_Symm_M1 d.2.1 d.2.2.1 d.2.2.2.1 d.2.2.2.2) (fin := ref_Symm_M1_fin) 60 ref_Symm_M1_ev).mono fun α st k r h => by
  refine Eq.trans (congrArg (reNorm 0 ref_Symm_M1_N ref_Symm_M1_A ref_Symm_M1_H st) ?_) h
  funext a m
  exact outOf_congr fun x => rfl
noncomputable def ref_Symm_M1_h : Hints := ref_Symm_h0.add [0, 1, 1, 1] ref_Symm_M1_sp
theorem ref_Symm_M1_h_ok : ref_Symm_M1_h.OK Try.prog (bodyOf Try.f38) := ref_Symm_h0_ok.add (show codeAt (bodyOf Try.f38) [0, 1, 1, 1] = some ((codeAt (bodyOf Try.f38) [0, 1, 1, 1]).getD .skip) from by kernel_rfl) ref_Symm_M1_ok
def ref_Symm_M2_A : List SD := [.any, .val (.int .i64), .loc 0 0 0, .any, .any, .any, .any, .loc 1 0 0, .val (.int .i64), .any, .any, .any, .any, .any, .any, .any, .any, .any, .any, .any, .any, .any, .any, .any, .any, .any, .any, .any, .any, .any, .any, .any, .any, .any, .any, .any, .any, .any, .any, .any, .any, .any, .any, .any, .any, .any, .any, .any, .any, .any, .any, .any, .any, .any]
def ref_Symm_M2_H : List HD := [.box [.val (.int .i64), .val (.int .i64)], .box [.val (.int .i64), .val (.int .i64)]]
abbrev ref_Symm_M2_D : Type := Int × Int × Int × Int × Int × Int
def ref_Symm_M2_to (a : DenS ref_Symm_M2_A) (m : DenH ref_Symm_M2_H) : ref_Symm_M2_D := (a.2.1, a.2.2.2.2.2.2.2.2.1, m.1.1, m.1.2.1, m.2.1.1, m.2.1.2.1)
def ref_Symm_M2_ofA (d : ref_Symm_M2_D) : DenS ref_Symm_M2_A := match d with | (s1, s8, m0_0, m0_1, m1_0, m1_1) => ((), s1, (), (), (), (), (), (), s8, (), (), (), (), (), (), (), (), (), (), (), (), (), (), (), (), (), (), (), (), (), (), (), (), (), (), (), (), (), (), (), (), (), (), (), (), (), (), (), (), (), (), (), (), (), ())
def ref_Symm_M2_ofH (d : ref_Symm_M2_D) : DenH ref_Symm_M2_H := match d with | (s1, s8, m0_0, m0_1, m1_0, m1_1) => ((m0_0, m0_1, ()), (m1_0, m1_1, ()), ())
def ref_Symm_M2_N : Norm := (⟨[1, 2, 7, 8], [], []⟩ : Norm)
def ref_Symm_M2_X : Exit → Norm := fun e => match e with | .normal => ⟨[1, 2, 7, 8], [], []⟩ | _ => ⟨[], [], []⟩
abbrev ref_Symm_M2_R : Type := (Int)
def ref_Symm_M2_fin (d : ref_Symm_M2_D) (v : ref_Symm_M2_R) : Exit × St := (.normal, ⟨[.any, .lit (.int .i64 d.1), .ptr 0 0 0, .any, .any, .any, .any, .ptr 1 0 0, .lit (.int .i64 v), .any, .any, .any, .any, .any, .any, .any, .any, .any, .any, .any, .any, .any, .any, .any, .any, .any, .any, .any, .any, .any, .any, .any, .any, .any, .any, .any, .any, .any, .any, .any, .any, .any, .any, .any, .any, .any, .any, .any, .any, .any, .any, .any, .any, .any], [.box [.lit (.int .i64 d.2.2.1), .lit (.int .i64 d.2.2.2.1)], .box [.lit (.int .i64 d.2.2.2.2.1), .lit (.int .i64 d.2.2.2.2.2)]]⟩)
noncomputable def ref_Symm_M2_t {γ : Type} (s1 : Int) (s8 : Int) (k : ref_Symm_M2_R → Option γ) : Option γ := cond (decide (s1 < (0 : Int))) (k (IntKind.wrap IntKind.i64 ((0 : Int) - s1))) (k (s8))
noncomputable def ref_Symm_M2 (s1 : Int) (s8 : Int) : Option ref_Symm_M2_R := ref_Symm_M2_t s1 s8 some
theorem ref_Symm_M2_t_eq {γ : Type} (s1 : Int) (s8 : Int) (k : ref_Symm_M2_R → Option γ) : ref_Symm_M2_t s1 s8 k = outOf (ref_Symm_M2 s1 s8) k := by
  delta ref_Symm_M2 ref_Symm_M2_t; exact (Tr.nd Tr.lf Tr.lf)
theorem ref_Symm_M2_ev (α : Type) (d : ref_Symm_M2_D) (k : Exit → St → Option α) : ev Try.prog R5 ref_Symm_M1_h 60 [0, 1, 1, 1, 1, 1] ((codeAt (bodyOf Try.f38) [0, 1, 1, 1, 1, 1]).getD .skip) ⟨mkS ref_Symm_M2_A (ref_Symm_M2_ofA d), mkH ref_Symm_M2_H (ref_Symm_M2_ofH d)⟩ (exitN 0 ref_Symm_M2_X k) = outOf (ref_Symm_M2 d.1 d.2.1) fun x => k (ref_Symm_M2_fin d x).1 (ref_Symm_M2_fin d x).2 := by
  obtain ⟨s1, s8, m0_0, m0_1, m1_0, m1_1⟩ := d
  exact (show _ = ref_Symm_M2_t s1 s8 (fun x => k (ref_Symm_M2_fin (s1, s8, m0_0, m0_1, m1_0, m1_1) x).1 (ref_Symm_M2_fin (s1, s8, m0_0, m0_1, m1_0, m1_1) x).2) from by kernel_rfl).trans (ref_Symm_M2_t_eq s1 s8 _)
noncomputable def ref_Symm_M2_sp : CSpec := fun _ st k => reNorm 0 ref_Symm_M2_N ref_Symm_M2_A ref_Symm_M2_H st fun a m => outOf (ref_Symm_M2 (ref_Symm_M2_to a m).1 (ref_Symm_M2_to a m).2.1) fun v => k .normal ⟨[.any, .lit (.int .i64 (ref_Symm_M2_to a m).1), .ptr 0 0 0, .any, .any, .any, .any, .ptr 1 0 0, .lit (.int .i64 v), .any, .any, .any, .any, .any, .any, .any, .any, .any, .any, .any, .any, .any, .any, .any, .any, .any, .any, .any, .any, .any, .any, .any, .any, .any, .any, .any, .any, .any, .any, .any, .any, .any, .any, .any, .any, .any, .any, .any, .any, .any, .any, .any, .any, .any], [.box [.lit (.int .i64 (ref_Symm_M2_to a m).2.2.1), .lit (.int .i64 (ref_Symm_M2_to a m).2.2.2.1)], .box [.lit (.int .i64 (ref_Symm_M2_to a m).2.2.2.2.1), .lit (.int .i64 (ref_Symm_M2_to a m).2.2.2.2.2)]]⟩
theorem ref_Symm_M2_ok : SumOK Try.prog 0 ((codeAt (bodyOf Try.f38) [0, 1, 1, 1, 1, 1]).getD .skip) ref_Symm_M2_sp := (SumOK.once R5_ok mixed ref_Symm_M1_h_ok (show codeAt (bodyOf Try.f38) [0, 1, 1, 1, 1, 1] = some ((codeAt (bodyOf Try.f38) [0, 1, 1, 1, 1, 1]).getD .skip) from by kernel_rfl) (N := ref_Symm_M2_N) (Nx := ref_Symm_M2_X) (A := ref_Symm_M2_A) (Hs := ref_Symm_M2_H) (toD := ref_Symm_M2_to) (ofA := ref_Symm_M2_ofA) (ofH := ref_Symm_M2_ofH) (fun _ _ => rfl) (fun _ _ => rfl) (M := fun d => ref_Symm_M2 d.1 d.2.1) (fin := ref_Symm_M2_fin) 60 ref_Symm_M2_ev).mono fun α st k r h => by
  refine Eq.trans (congrArg (reNorm 0 ref_Symm_M2_N ref_Symm_M2_A ref_Symm_M2_H st) ?_) h
  funext a m
  exact outOf_congr fun x => rfl
noncomputable def ref_Symm_M2_h : Hints := ref_Symm_M1_h.add [0, 1, 1, 1, 1, 1] ref_Symm_M2_sp
theorem ref_Symm_M2_h_ok : ref_Symm_M2_h.OK Try.prog (bodyOf Try.f38) := ref_Symm_M1_h_ok.add (show codeAt (bodyOf Try.f38) [0, 1, 1, 1, 1, 1] = some ((codeAt (bodyOf Try.f38) [0, 1, 1, 1, 1, 1]).getD .skip) from by kernel_rfl) ref_Symm_M2_ok
def ref_Symm_M3_A : List SD := [.any, .val (.int .i64), .loc 0 0 0, .any, .any, .any, .any, .any, .any, .val (.int .i64), .loc 1 0 0, .any, .any, .any, .any, .any, .any, .any, .any, .any, .any, .any, .any, .any, .any, .any, .any, .any, .any, .any, .any, .any, .any, .any, .any, .any, .any, .any, .any, .any, .any, .any, .any, .any, .any, .any, .any, .any, .any, .any, .any, .any, .any, .any]
def ref_Symm_M3_H : List HD := [.box [.val (.int .i64), .val (.int .i64)], .box [.val (.int .i64), .val (.int .i64)]]
abbrev ref_Symm_M3_D : Type := Int × Int × Int × Int × Int × Int
def ref_Symm_M3_to (a : DenS ref_Symm_M3_A) (m : DenH ref_Symm_M3_H) : ref_Symm_M3_D := (a.2.1, a.2.2.2.2.2.2.2.2.2.1, m.1.1, m.1.2.1, m.2.1.1, m.2.1.2.1)
def ref_Symm_M3_ofA (d : ref_Symm_M3_D) : DenS ref_Symm_M3_A := match d with | (s1, s9, m0_0, m0_1, m1_0, m1_1) => ((), s1, (), (), (), (), (), (), (), s9, (), (), (), (), (), (), (), (), (), (), (), (), (), (), (), (), (), (), (), (), (), (), (), (), (), (), (), (), (), (), (), (), (), (), (), (), (), (), (), (), (), (), (), (), ())
def ref_Symm_M3_ofH (d : ref_Symm_M3_D) : DenH ref_Symm_M3_H := match d with | (s1, s9, m0_0, m0_1, m1_0, m1_1) => ((m0_0, m0_1, ()), (m1_0, m1_1, ()), ())
def ref_Symm_M3_N : Norm := (⟨[1, 2, 9, 10], [], []⟩ : Norm)
def ref_Symm_M3_X : Exit → Norm := fun e => match e with | .normal => ⟨[2, 9, 10], [], []⟩ | .ret => ⟨[4, 5, 6], [], []⟩ | _ => ⟨[], [], []⟩
abbrev ref_Symm_M3_R : Type := ((Int × Int) ⊕ (Int × Int × Int))
def ref_Symm_M3_fin (d : ref_Symm_M3_D) (v : ref_Symm_M3_R) : Exit × St := sumOf v (fun v => (.normal, ⟨[.any, .any, .ptr 0 0 0, .any, .any, .any, .any, .any, .any, .lit (.int .i64 d.2.1), .ptr 1 0 0, .any, .any, .any, .any, .any, .any, .any, .any, .any, .any, .any, .any, .any, .any, .any, .any, .any, .any, .any, .any, .any, .any, .any, .any, .any, .any, .any, .any, .any, .any, .any, .any, .any, .any, .any, .any, .any, .any, .any, .any, .any, .any, .any], [.box [.lit (.int .i64 d.2.2.1), .lit (.int .i64 d.2.2.2.1)], .box [.lit (.int .i64 v.1), .lit (.int .i64 v.2)]]⟩)) (fun v => (.ret, ⟨[.any, .any, .any, .any, .lit (.int .i64 v.1), .lit (.int .i64 v.2.1), .lit (.int .i64 v.2.2), .any, .any, .any, .any, .any, .any, .any, .any, .any, .any, .any, .any, .any, .any, .any, .any, .any, .any, .any, .any, .any, .any, .any, .any, .any, .any, .any, .any, .any, .any, .any, .any, .any, .any, .any, .any, .any, .any, .any, .any, .any, .any, .any, .any, .any, .any, .any], []⟩))
noncomputable def ref_Symm_M3_t {γ : Type} (s1 : Int) (m0_1 : Int) (m1_0 : Int) (m1_1 : Int) (k : ref_Symm_M3_R → Option γ) : Option γ := cond (!decide (m0_1 < (0 : Int)) == decide (s1 < (0 : Int))) (outOf (ref_Neg m1_0 m1_1) fun (x2 : (Int × Int)) => k (.inl (Prod.fst x2, Prod.snd x2))) (cond (decide (m1_1 < (0 : Int))) (k (.inr ((0 : Int), (0 : Int), (-11 : Int)))) (k (.inl (m1_0, m1_1))))
noncomputable def ref_Symm_M3 (s1 : Int) (m0_1 : Int) (m1_0 : Int) (m1_1 : Int) : Option ref_Symm_M3_R := ref_Symm_M3_t s1 m0_1 m1_0 m1_1 some
theorem ref_Symm_M3_t_eq {γ : Type} (s1 : Int) (m0_1 : Int) (m1_0 : Int) (m1_1 : Int) (k : ref_Symm_M3_R → Option γ) : ref_Symm_M3_t s1 m0_1 m1_0 m1_1 k = outOf (ref_Symm_M3 s1 m0_1 m1_0 m1_1) k := by
  delta ref_Symm_M3 ref_Symm_M3_t; exact (Tr.nd (Tr.bd fun x2 => Tr.lf) (Tr.nd Tr.lf Tr.lf))
theorem ref_Symm_M3_ev (α : Type) (d : ref_Symm_M3_D) (k : Exit → St → Option α) : ev Try.prog R5 ref_Symm_M2_h 60 [0, 1, 1, 1, 1, 1, 1, 1] ((codeAt (bodyOf Try.f38) [0, 1, 1, 1, 1, 1, 1, 1]).getD .skip) ⟨mkS ref_Symm_M3_A (ref_Symm_M3_ofA d), mkH ref_Symm_M3_H (ref_Symm_M3_ofH d)⟩ (exitN 0 ref_Symm_M3_X k) = outOf (ref_Symm_M3 d.1 d.2.2.2.1 d.2.2.2.2.1 d.2.2.2.2.2) fun x => k (ref_Symm_M3_fin d x).1 (ref_Symm_M3_fin d x).2 := by
  obtain ⟨s1, s9, m0_0, m0_1, m1_0, m1_1⟩ := d
  exact (show _ = ref_Symm_M3_t s1 m0_1 m1_0 m1_1 (fun x => k (ref_Symm_M3_fin (s1, s9, m0_0, m0_1, m1_0, m1_1) x).1 (ref_Symm_M3_fin (s1, s9, m0_0, m0_1, m1_0, m1_1) x).2) from by kernel_rfl).trans (ref_Symm_M3_t_eq s1 m0_1 m1_0 m1_1 _)
noncomputable def ref_Symm_M3_sp : CSpec := fun _ st k => reNorm 0 ref_Symm_M3_N ref_Symm_M3_A ref_Symm_M3_H st fun a m => outOf (ref_Symm_M3 (ref_Symm_M3_to a m).1 (ref_Symm_M3_to a m).2.2.2.1 (ref_Symm_M3_to a m).2.2.2.2.1 (ref_Symm_M3_to a m).2.2.2.2.2) fun v => sumOf v (fun v => k .normal ⟨[.any, .any, .ptr 0 0 0, .any, .any, .any, .any, .any, .any, .lit (.int .i64 (ref_Symm_M3_to a m).2.1), .ptr 1 0 0, .any, .any, .any, .any, .any, .any, .any, .any, .any, .any, .any, .any, .any, .any, .any, .any, .any, .any, .any, .any, .any, .any, .any, .any, .any, .any, .any, .any, .any, .any, .any, .any, .any, .any, .any, .any, .any, .any, .any, .any, .any, .any, .any], [.box [.lit (.int .i64 (ref_Symm_M3_to a m).2.2.1), .lit (.int .i64 (ref_Symm_M3_to a m).2.2.2.1)], .box [.lit (.int .i64 v.1), .lit (.int .i64 v.2)]]⟩) (fun v => k .ret ⟨[.any, .any, .any, .any, .lit (.int .i64 v.1), .lit (.int .i64 v.2.1), .lit (.int .i64 v.2.2), .any, .any, .any, .any, .any, .any, .any, .any, .any, .any, .any, .any, .any, .any, .any, .any, .any, .any, .any, .any, .any, .any, .any, .any, .any, .any, .any, .any, .any, .any, .any, .any, .any, .any, .any, .any, .any, .any, .any, .any, .any, .any, .any, .any, .any, .any, .any], []⟩)
theorem ref_Symm_M3_ok : SumOK Try.prog 0 ((codeAt (bodyOf Try.f38) [0, 1, 1, 1, 1, 1, 1, 1]).getD .skip) ref_Symm_M3_sp := (SumOK.once R5_ok mixed ref_Symm_M2_h_ok (show codeAt (bodyOf Try.f38) [0, 1, 1, 1, 1, 1, 1, 1] = some ((codeAt (bodyOf Try.f38) [0, 1, 1, 1, 1, 1, 1, 1]).getD .skip) from by kernel_rfl) (N := ref_Symm_M3_N) (Nx := ref_Symm_M3_X) (A := ref_Symm_M3_A) (Hs := ref_Symm_M3_H) (toD := ref_Symm_M3_to) (ofA := ref_Symm_M3_ofA) (ofH := ref_Symm_M3_ofH) (fun _ _ => rfl) (fun _ _ => rfl) (M := fun d => ref_Symm_M3 d.1 d.2.2.2.1 d.2.2.2.2.1 d.2.2.2.2.2) (fin := ref_Symm_M3_fin) 60 ref_Symm_M3_ev).mono fun α st k r h => by
  refine Eq.trans (congrArg (reNorm 0 ref_Symm_M3_N ref_Symm_M3_A ref_Symm_M3_H st) ?_) h
  funext a m
  exact outOf_congr fun x => by rcases x with x | x <;> rfl
noncomputable def ref_Symm_M3_h : Hints := ref_Symm_M2_h.add [0, 1, 1, 1, 1, 1, 1, 1] ref_Symm_M3_sp
theorem ref_Symm_M3_h_ok : ref_Symm_M3_h.OK Try.prog (bodyOf Try.f38) := ref_Symm_M2_h_ok.add (show codeAt (bodyOf Try.f38) [0, 1, 1, 1, 1, 1, 1, 1] = some ((codeAt (bodyOf Try.f38) [0, 1, 1, 1, 1, 1, 1, 1]).getD .skip) from by kernel_rfl) ref_Symm_M3_ok
abbrev ref_Symm_R : Type := (Int × Int × Int)
noncomputable def ref_Symm_t {γ : Type} (a0_0 : Int) (a0_1 : Int) (a1 : Int) (k : ref_Symm_R → Option γ) : Option γ := cond (a1 == (0 : Int)) (k ((0 : Int), (0 : Int), (-10 : Int))) (outOf (ref_Symm_M1 a0_0 a0_1 a0_0 a0_1) fun (x3 : (Int × Int)) => outOf (ref_Symm_M2 a1 a1) fun (x4 : Int) => outOf (ref_divide (Prod.fst x3) (Prod.snd x3) x4) fun (x5 : (Int × (Int × Int))) => outOf (ref_Symm_M3 a1 a0_1 (Prod.fst (Prod.snd x5)) (Prod.snd (Prod.snd x5))) fun (x6 : Int × Int ⊕ Int × Int × Int) => sumOf x6 (fun x7 => outOf (ref_Of (Prod.fst x7)) fun (x9 : (Int × Int)) => cond (!(Prod.fst x7 == Prod.fst x9 && (Prod.snd x7 == Prod.snd x9 && true))) (k ((0 : Int), (0 : Int), (-11 : Int))) (cond (decide (a0_1 < (0 : Int))) (k (IntKind.wrap IntKind.i64 ((0 : Int) - Prod.fst x5), Prod.fst x7, (0 : Int))) (k (Prod.fst x5, Prod.fst x7, (0 : Int))))) (fun x8 => k (Prod.fst x8, Prod.fst (Prod.snd x8), Prod.snd (Prod.snd x8))))
noncomputable def ref_Symm (a0_0 : Int) (a0_1 : Int) (a1 : Int) : Option ref_Symm_R := ref_Symm_t a0_0 a0_1 a1 some
theorem ref_Symm_t_eq {γ : Type} (a0_0 : Int) (a0_1 : Int) (a1 : Int) (k : ref_Symm_R → Option γ) : ref_Symm_t a0_0 a0_1 a1 k = outOf (ref_Symm a0_0 a0_1 a1) k := by
  delta ref_Symm ref_Symm_t; exact (Tr.nd Tr.lf (Tr.bd fun x3 => (Tr.bd fun x4 => (Tr.bd fun x5 => (Tr.bd fun x6 => (Tr.cs (fun x7 => (Tr.bd fun x9 => (Tr.nd Tr.lf (Tr.nd Tr.lf Tr.lf)))) (fun x8 => Tr.lf)))))))
noncomputable def ref_Symm_sp : TX.Spec := specD [.agg (.pair (.int .i64) (.int .i64)), .val (.int .i64)] [] fun _ a m k => match a, m with | ⟨⟨a0_0, a0_1⟩, a1, _⟩, _ => outOf (ref_Symm a0_0 a0_1 a1) fun v => k (.tup [.lit (.int .i64 v.1), .lit (.int .i64 v.2.1), .lit (.int .i64 v.2.2)]) []
theorem ref_Symm_ev {α : Type} (a0_0 : Int) (a0_1 : Int) (a1 : Int) (k : Kont α) : evFun Try.prog R5 (ref_Symm_M3_h) false Try.f38 (bodyOf Try.f38) 60 (mkS [.agg (.pair (.int .i64) (.int .i64)), .val (.int .i64)] ((a0_0, a0_1), a1, ())) (mkH [] ()) k = outOf (ref_Symm a0_0 a0_1 a1) fun v => k (.tup [.lit (.int .i64 v.1), .lit (.int .i64 v.2.1), .lit (.int .i64 v.2.2)]) [] :=
  (show _ = ref_Symm_t a0_0 a0_1 a1 (fun v => k (.tup [.lit (.int .i64 v.1), .lit (.int .i64 v.2.1), .lit (.int .i64 v.2.2)]) []) from by kernel_rfl).trans (ref_Symm_t_eq a0_0 a0_1 a1 _)
theorem ref_Symm_good : TX.Good Try.prog 38 ref_Symm_sp := good_form R5_ok mixed Try.func38 (body_of rfl) (by kernel_rfl) false fun α a m k r h => by
  obtain ⟨⟨a0_0, a0_1⟩, a1, _⟩ := a; obtain _ := m
  exact ⟨ref_Symm_M3_h, 60, ref_Symm_M3_h_ok, rfl, (ref_Symm_ev a0_0 a0_1 a1 k).trans h⟩
/-! f39 tenterhook/tenterhookref02.Floor -/
def ref_Floor_h0 : Hints := Hints.nil 0
theorem ref_Floor_h0_ok : ref_Floor_h0.OK Try.prog (bodyOf Try.f39) := Hints.nil_ok
def ref_Floor_M1_A : List SD := [.any, .val (.int .i64), .loc 0 0 0, .any, .any, .any, .any, .loc 1 0 0, .any, .any, .any, .any, .any, .any, .any, .any, .any, .any, .any, .any, .any, .any, .any, .any, .any, .any, .any, .any, .any, .any, .any, .any, .any, .any, .any, .any, .any, .any, .any, .any, .any, .any, .any, .any, .any, .any, .any, .any, .any, .any, .any, .any, .any, .any, .any, .any, .any, .any, .any, .any, .any, .any, .any, .any, .any, .any, .any, .any, .any, .any, .any]
def ref_Floor_M1_H : List HD := [.box [.val (.int .i64), .val (.int .i64)], .box [.val (.int .i64), .val (.int .i64)]]
abbrev ref_Floor_M1_D : Type := Int × Int × Int × Int × Int
def ref_Floor_M1_to (a : DenS ref_Floor_M1_A) (m : DenH ref_Floor_M1_H) : ref_Floor_M1_D := (a.2.1, m.1.1, m.1.2.1, m.2.1.1, m.2.1.2.1)
def ref_Floor_M1_ofA (d : ref_Floor_M1_D) : DenS ref_Floor_M1_A := match d with | (s1, m0_0, m0_1, m1_0, m1_1) => ((), s1, (), (), (), (), (), (), (), (), (), (), (), (), (), (), (), (), (), (), (), (), (), (), (), (), (), (), (), (), (), (), (), (), (), (), (), (), (), (), (), (), (), (), (), (), (), (), (), (), (), (), (), (), (), (), (), (), (), (), (), (), (), (), (), (), (), (), (), (), (), ())
def ref_Floor_M1_ofH (d : ref_Floor_M1_D) : DenH ref_Floor_M1_H := match d with | (s1, m0_0, m0_1, m1_0, m1_1) => ((m0_0, m0_1, ()), (m1_0, m1_1, ()), ())
def ref_Floor_M1_N : Norm := (⟨[1, 2, 7], [], []⟩ : Norm)
def ref_Floor_M1_X : Exit → Norm := fun e => match e with | .normal => ⟨[1, 2, 7], [], []⟩ | _ => ⟨[], [], []⟩
abbrev ref_Floor_M1_R : Type := (Int × Int)
def ref_Floor_M1_fin (d : ref_Floor_M1_D) (v : ref_Floor_M1_R) : Exit × St := (.normal, ⟨[.any, .lit (.int .i64 d.1), .ptr 0 0 0, .any, .any, .any, .any, .ptr 1 0 0, .any, .any, .any, .any, .any, .any, .any, .any, .any, .any, .any, .any, .any, .any, .any, .any, .any, .any, .any, .any, .any, .any, .any, .any, .any, .any, .any, .any, .any, .any, .any, .any, .any, .any, .any, .any, .any, .any, .any, .any, .any, .any, .any, .any, .any, .any, .any, .any, .any, .any, .any, .any, .any, .any, .any, .any, .any, .any, .any, .any, .any, .any, .any], [.box [.lit (.int .i64 d.2.1), .lit (.int .i64 d.2.2.1)], .box [.lit (.int .i64 v.1), .lit (.int .i64 v.2)]]⟩)
noncomputable def ref_Floor_M1_t {γ : Type} (m0_0 : Int) (m0_1 : Int) (m1_0 : Int) (m1_1 : Int) (k : ref_Floor_M1_R → Option γ) : Option γ := cond (decide (m0_1 < (0 : Int))) (outOf (ref_Neg m0_0 m0_1) fun (x1 : (Int × Int)) => k (Prod.fst x1, Prod.snd x1)) (k (m1_0, m1_1))
noncomputable def ref_Floor_M1 (m0_0 : Int) (m0_1 : Int) (m1_0 : Int) (m1_1 : Int) : Option ref_Floor_M1_R := ref_Floor_M1_t m0_0 m0_1 m1_0 m1_1 some
theorem ref_Floor_M1_t_eq {γ : Type} (m0_0 : Int) (m0_1 : Int) (m1_0 : Int) (m1_1 : Int) (k : ref_Floor_M1_R → Option γ) : ref_Floor_M1_t m0_0 m0_1 m1_0 m1_1 k = outOf (ref_Floor_M1 m0_0 m0_1 m1_0 m1_1) k := by
  delta ref_Floor_M1 ref_Floor_M1_t; exact (Tr.nd (Tr.bd fun x1 => Tr.lf) Tr.lf)
theorem ref_Floor_M1_ev (α : Type) (d : ref_Floor_M1_D) (k : Exit → St → Option α) : ev Try.prog R5 ref_Floor_h0 60 [0, 1, 1, 1] ((codeAt (bodyOf Try.f39) [0, 1, 1, 1]).getD .skip) ⟨mkS ref_Floor_M1_A (ref_Floor_M1_ofA d), mkH ref_Floor_M1_H (ref_Floor_M1_ofH d)⟩ (exitN 0 ref_Floor_M1_X k) = outOf (ref_Floor_M1 d.2.1 d.2.2.1 d.2.2.2.1 d.2.2.2.2) fun x => k (ref_Floor_M1_fin d x).1 (ref_Floor_M1_fin d x).2 := by
  obtain ⟨s1, m0_0, m0_1, m1_0, m1_1⟩ := d
  exact (show _ = ref_Floor_M1_t m0_0 m0_1 m1_0 m1_1 (fun x => k (ref_Floor_M1_fin (s1, m0_0, m0_1, m1_0, m1_1) x).1 (ref_Floor_M1_fin (s1, m0_0, m0_1, m1_0, m1_1) x).2) from by kernel_rfl).trans (ref_Floor_M1_t_eq m0_0 m0_1 m1_0 m1_1 _)
noncomputable def ref_Floor_M1_sp : CSpec := fun _ st k => reNorm 0 ref_Floor_M1_N ref_Floor_M1_A ref_Floor_M1_H st fun a m => outOf (ref_Floor_M1 (ref_Floor_M1_to a m).2.1 (ref_Floor_M1_to a m).2.2.1 (ref_Floor_M1_to a m).2.2.2.1 (ref_Floor_M1_to a m).2.2.2.2) fun v => k .normal ⟨[.any, .lit (.int .i64 (ref_Floor_M1_to a m).1), .ptr 0 0 0, .any, .any, .any, .any, .ptr 1 0 0, .any, .any, .any, .any, .any, .any, .any, .any, .any, .any, .any, .any, .any, .any, .any, .any, .any, .any, .any, .any, .any, .any, .any, .any, .any, .any, .any, .any, .any, .any, .any, .any, .any, .any, .any, .any, .any, .any, .any, .any, .any, .any, .any, .any, .any, .any, .any, .any, .any, .any, .any, .any, .any, .any, .any, .any, .any, .any, .any, .any, .any, .any, .any], [.box [.lit (.int .i64 (ref_Floor_M1_to a m).2.1), .lit (.int .i64 (ref_Floor_M1_to a m).2.2.1)], .box [.lit (.int .i64 v.1), .lit (.int .i64 v.2)]]⟩
theorem ref_Floor_M1_ok : SumOK Try.prog 0 ((codeAt (bodyOf Try.f39) [0, 1, 1, 1]).getD .skip) ref_Floor_M1_sp := (SumOK.once R5_ok mixed ref_Floor_h0_ok (show codeAt (bodyOf Try.f39) [0, 1, 1, 1] = some ((codeAt (bodyOf Try.f39) [0, 1, 1, 1]).getD .skip) from by kernel_rfl) (N := ref_Floor_M1_N) (Nx := ref_Floor_M1_X) (A := ref_Floor_M1_A) (Hs := ref_Floor_M1_H) (toD := ref_Floor_M1_to) (ofA := ref_Floor_M1_ofA) (ofH := ref_Floor_M1_ofH) (fun _ _ => rfl) (fun _ _ => rfl) (M := fun d => ref_Floor_M1 d.2.1 d.2.2.1 d.2.2.2.1 d.2.2.2.2) (fin := ref_Floor_M1_fin) 60 ref_Floor_M1_ev).mono fun α st k r h => by
  refine Eq.trans (congrArg (reNorm 0 ref_Floor_M1_N ref_Floor_M1_A ref_Floor_M1_H st) ?_) h
  funext a m
  exact outOf_congr fun x => rfl
noncomputable def ref_Floor_M1_h : Hints := ref_Floor_h0.add [0, 1, 1, 1] ref_Floor_M1_sp
theorem ref_Floor_M1_h_ok : ref_Floor_M1_h.OK Try.prog (bodyOf Try.f39) := ref_Floor_h0_ok.add (show codeAt (bodyOf Try.f39) [0, 1, 1, 1] = some ((codeAt (bodyOf Try.f39) [0, 1, 1, 1]).getD .skip) from by kernel_rfl) ref_Floor_M1_ok
def ref_Floor_M2_A : List SD := [.any, .val (.int .i64), .loc 0 0 0, .any, .any, .any, .any, .loc 1 0 0, .val (.int .i64), .any, .any, .any, .any, .any, .any, .any, .any, .any, .any, .any, .any, .any, .any, .any, .any, .any, .any, .any, .any, .any, .any, .any, .any, .any, .any, .any, .any, .any, .any, .any, .any, .any, .any, .any, .any, .any, .any, .any, .any, .any, .any, .any, .any, .any, .any, .any, .any, .any, .any, .any, .any, .any, .any, .any, .any, .any, .any, .any, .any, .any, .any]
def ref_Floor_M2_H : List HD := [.box [.val (.int .i64), .val (.int .i64)], .box [.val (.int .i64), .val (.int .i64)]]
abbrev ref_Floor_M2_D : Type := Int × Int × Int × Int × Int × Int
def ref_Floor_M2_to (a : DenS ref_Floor_M2_A) (m : DenH ref_Floor_M2_H) : ref_Floor_M2_D := (a.2.1, a.2.2.2.2.2.2.2.2.1, m.1.1, m.1.2.1, m.2.1.1, m.2.1.2.1)
def ref_Floor_M2_ofA (d : ref_Floor_M2_D) : DenS ref_Floor_M2_A := match d with | (s1, s8, m0_0, m0_1, m1_0, m1_1) => ((), s1, (), (), (), (), (), (), s8, (), (), (), (), (), (), (), (), (), (), (), (), (), (), (), (), (), (), (), (), (), (), (), (), (), (), (), (), (), (), (), (), (), (), (), (), (), (), (), (), (), (), (), (), (), (), (), (), (), (), (), (), (), (), (), (), (), (), (), (), (), (), ())
def ref_Floor_M2_ofH (d : ref_Floor_M2_D) : DenH ref_Floor_M2_H := match d with | (s1, s8, m0_0, m0_1, m1_0, m1_1) => ((m0_0, m0_1, ()), (m1_0, m1_1, ()), ())
def ref_Floor_M2_N : Norm := (⟨[1, 2, 7, 8], [], []⟩ : Norm)
def ref_Floor_M2_X : Exit → Norm := fun e => match e with | .normal => ⟨[1, 2, 7, 8], [], []⟩ | _ => ⟨[], [], []⟩
abbrev ref_Floor_M2_R : Type := (Int)
def ref_Floor_M2_fin (d : ref_Floor_M2_D) (v : ref_Floor_M2_R) : Exit × St := (.normal, ⟨[.any, .lit (.int .i64 d.1), .ptr 0 0 0, .any, .any, .any, .any, .ptr 1 0 0, .lit (.int .i64 v), .any, .any, .any, .any, .any, .any, .any, .any, .any, .any, .any, .any, .any, .any, .any, .any, .any, .any, .any, .any, .any, .any, .any, .any, .any, .any, .any, .any, .any, .any, .any, .any, .any, .any, .any, .any, .any, .any, .any, .any, .any, .any, .any, .any, .any, .any, .any, .any, .any, .any, .any, .any, .any, .any, .any, .any, .any, .any, .any, .any, .any, .any], [.box [.lit (.int .i64 d.2.2.1), .lit (.int .i64 d.2.2.2.1)], .box [.lit (.int .i64 d.2.2.2.2.1), .lit (.int .i64 d.2.2.2.2.2)]]⟩)
noncomputable def ref_Floor_M2_t {γ : Type} (s1 : Int) (s8 : Int) (k : ref_Floor_M2_R → Option γ) : Option γ := cond (decide (s1 < (0 : Int))) (k (IntKind.wrap IntKind.i64 ((0 : Int) - s1))) (k (s8))
noncomputable def ref_Floor_M2 (s1 : Int) (s8 : Int) : Option ref_Floor_M2_R := ref_Floor_M2_t s1 s8 some
theorem ref_Floor_M2_t_eq {γ : Type} (s1 : Int) (s8 : Int) (k : ref_Floor_M2_R → Option γ) : ref_Floor_M2_t s1 s8 k = outOf (ref_Floor_M2 s1 s8) k := by
  delta ref_Floor_M2 ref_Floor_M2_t; exact (Tr.nd Tr.lf Tr.lf)
theorem ref_Floor_M2_ev (α : Type) (d : ref_Floor_M2_D) (k : Exit → St → Option α) : ev Try.prog R5 ref_Floor_M1_h 60 [0, 1, 1, 1, 1, 1] ((codeAt (bodyOf Try.f39) [0, 1, 1, 1, 1, 1]).getD .skip) ⟨mkS ref_Floor_M2_A (ref_Floor_M2_ofA d), mkH ref_Floor_M2_H (ref_Floor_M2_ofH d)⟩ (exitN 0 ref_Floor_M2_X k) = outOf (ref_Floor_M2 d.1 d.2.1) fun x => k (ref_Floor_M2_fin d x).1 (ref_Floor_M2_fin d x).2 := by
  obtain ⟨s1, s8, m0_0, m0_1, m1_0, m1_1⟩ := d
  exact (show _ = ref_Floor_M2_t s1 s8 (fun x => k (ref_Floor_M2_fin (s1, s8, m0_0, m0_1, m1_0, m1_1) x).1 (ref_Floor_M2_fin (s1, s8, m0_0, m0_1, m1_0, m1_1) x).2) from by kernel_rfl).trans (ref_Floor_M2_t_eq s1 s8 _)
noncomputable def ref_Floor_M2_sp : CSpec := fun _ st k => reNorm 0 ref_Floor_M2_N ref_Floor_M2_A ref_Floor_M2_H st fun a m => outOf (ref_Floor_M2 (ref_Floor_M2_to a m).1 (ref_Floor_M2_to a m).2.1) fun v => k .normal ⟨[.any, .lit (.int .i64 (ref_Floor_M2_to a m).1), .ptr 0 0 0, .any, .any, .any, .any, .ptr 1 0 0, .lit (.int .i64 v), .any, .any, .any, .any, .any, .any, .any, .any, .any, .any, .any, .any, .any, .any, .any, .any, .any, .any, .any, .any, .any, .any, .any, .any, .any, .any, .any, .any, .any, .any, .any, .any, .any, .any, .any, .any, .any, .any, .any, .any, .any, .any, .any, .any, .any, .any, .any, .any, .any, .any, .any, .any, .any, .any, .any, .any, .any, .any, .any, .any, .any, .any], [.box [.lit (.int .i64 (ref_Floor_M2_to a m).2.2.1), .lit (.int .i64 (ref_Floor_M2_to a m).2.2.2.1)], .box [.lit (.int .i64 (ref_Floor_M2_to a m).2.2.2.2.1), .lit (.int .i64 (ref_Floor_M2_to a m).2.2.2.2.2)]]⟩
theorem ref_Floor_M2_ok : SumOK Try.prog 0 ((codeAt (bodyOf Try.f39) [0, 1, 1, 1, 1, 1]).getD .skip) ref_Floor_M2_sp := (SumOK.once R5_ok mixed ref_Floor_M1_h_ok (show codeAt (bodyOf Try.f39) [0, 1, 1, 1, 1, 1] = some ((codeAt (bodyOf Try.f39) [0, 1, 1, 1, 1, 1]).getD .skip) from by kernel_rfl) (N := ref_Floor_M2_N) (Nx := ref_Floor_M2_X) (A := ref_Floor_M2_A) (Hs := ref_Floor_M2_H) (toD := ref_Floor_M2_to) (ofA := ref_Floor_M2_ofA) (ofH := ref_Floor_M2_ofH) (fun _ _ => rfl) (fun _ _ => rfl) (M := fun d => ref_Floor_M2 d.1 d.2.1) (fin := ref_Floor_M2_fin) 60 ref_Floor_M2_ev).mono fun α st k r h => by
  refine Eq.trans (congrArg (reNorm 0 ref_Floor_M2_N ref_Floor_M2_A ref_Floor_M2_H st) ?_) h
  funext a m
  exact outOf_congr fun x => rfl
noncomputable def ref_Floor_M2_h : Hints := ref_Floor_M1_h.add [0, 1, 1, 1, 1, 1] ref_Floor_M2_sp
theorem ref_Floor_M2_h_ok : ref_Floor_M2_h.OK Try.prog (bodyOf Try.f39) := ref_Floor_M1_h_ok.add (show codeAt (bodyOf Try.f39) [0, 1, 1, 1, 1, 1] = some ((codeAt (bodyOf Try.f39) [0, 1, 1, 1, 1, 1]).getD .skip) from by kernel_rfl) ref_Floor_M2_ok
def ref_Floor_M3_A : List SD := [.any, .val (.int .i64), .loc 0 0 0, .any, .any, .any, .any, .any, .any, .val (.int .i64), .loc 1 0 0, .val .bool, .any, .any, .any, .any, .any, .any, .any, .any, .any, .any, .any, .any, .any, .any, .any, .any, .any, .any, .any, .any, .any, .any, .any, .any, .any, .any, .any, .any, .any, .any, .any, .any, .any, .any, .any, .any, .any, .any, .any, .any, .any, .any, .any, .any, .any, .any, .any, .any, .any, .any, .any, .any, .any, .any, .any, .any, .any, .any, .any]
def ref_Floor_M3_H : List HD := [.box [.val (.int .i64), .val (.int .i64)], .box [.val (.int .i64), .val (.int .i64)]]
abbrev ref_Floor_M3_D : Type := Int × Int × Bool × Int × Int × Int × Int
def ref_Floor_M3_to (a : DenS ref_Floor_M3_A) (m : DenH ref_Floor_M3_H) : ref_Floor_M3_D := (a.2.1, a.2.2.2.2.2.2.2.2.2.1, a.2.2.2.2.2.2.2.2.2.2.2.1, m.1.1, m.1.2.1, m.2.1.1, m.2.1.2.1)
def ref_Floor_M3_ofA (d : ref_Floor_M3_D) : DenS ref_Floor_M3_A := match d with | (s1, s9, s11, m0_0, m0_1, m1_0, m1_1) => ((), s1, (), (), (), (), (), (), (), s9, (), s11, (), (), (), (), (), (), (), (), (), (), (), (), (), (), (), (), (), (), (), (), (), (), (), (), (), (), (), (), (), (), (), (), (), (), (), (), (), (), (), (), (), (), (), (), (), (), (), (), (), (), (), (), (), (), (), (), (), (), (), ())
def ref_Floor_M3_ofH (d : ref_Floor_M3_D) : DenH ref_Floor_M3_H := match d with | (s1, s9, s11, m0_0, m0_1, m1_0, m1_1) => ((m0_0, m0_1, ()), (m1_0, m1_1, ()), ())
def ref_Floor_M3_N : Norm := (⟨[1, 2, 9, 10, 11], [], []⟩ : Norm)
def ref_Floor_M3_X : Exit → Norm := fun e => match e with | .normal => ⟨[1, 2, 9, 10, 11], [], []⟩ | .ret => ⟨[4, 5, 6], [], []⟩ | _ => ⟨[], [], []⟩
abbrev ref_Floor_M3_R : Type := ((Int × Int × Int) ⊕ (Unit))
def ref_Floor_M3_fin (d : ref_Floor_M3_D) (v : ref_Floor_M3_R) : Exit × St := sumOf v (fun v => (.ret, ⟨[.any, .any, .any, .any, .lit (.int .i64 v.1), .lit (.int .i64 v.2.1), .lit (.int .i64 v.2.2), .any, .any, .any, .any, .any, .any, .any, .any, .any, .any, .any, .any, .any, .any, .any, .any, .any, .any, .any, .any, .any, .any, .any, .any, .any, .any, .any, .any, .any, .any, .any, .any, .any, .any, .any, .any, .any, .any, .any, .any, .any, .any, .any, .any, .any, .any, .any, .any, .any, .any, .any, .any, .any, .any, .any, .any, .any, .any, .any, .any, .any, .any, .any, .any], []⟩)) (fun v => (.normal, ⟨[.any, .lit (.int .i64 d.1), .ptr 0 0 0, .any, .any, .any, .any, .any, .any, .lit (.int .i64 d.2.1), .ptr 1 0 0, .lit (.bool d.2.2.1), .any, .any, .any, .any, .any, .any, .any, .any, .any, .any, .any, .any, .any, .any, .any, .any, .any, .any, .any, .any, .any, .any, .any, .any, .any, .any, .any, .any, .any, .any, .any, .any, .any, .any, .any, .any, .any, .any, .any, .any, .any, .any, .any, .any, .any, .any, .any, .any, .any, .any, .any, .any, .any, .any, .any, .any, .any, .any, .any], [.box [.lit (.int .i64 d.2.2.2.1), .lit (.int .i64 d.2.2.2.2.1)], .box [.lit (.int .i64 d.2.2.2.2.2.1), .lit (.int .i64 d.2.2.2.2.2.2)]]⟩))
noncomputable def ref_Floor_M3_t {γ : Type} (s11 : Bool) (m1_1 : Int) (k : ref_Floor_M3_R → Option γ) : Option γ := cond (!s11) (cond (decide (m1_1 < (0 : Int))) (k (.inl ((0 : Int), (0 : Int), (-11 : Int)))) (k (.inr ()))) (k (.inr ()))
noncomputable def ref_Floor_M3 (s11 : Bool) (m1_1 : Int) : Option ref_Floor_M3_R := ref_Floor_M3_t s11 m1_1 some
theorem ref_Floor_M3_t_eq {γ : Type} (s11 : Bool) (m1_1 : Int) (k : ref_Floor_M3_R → Option γ) : ref_Floor_M3_t s11 m1_1 k = outOf (ref_Floor_M3 s11 m1_1) k := by
  delta ref_Floor_M3 ref_Floor_M3_t; exact (Tr.nd (Tr.nd Tr.lf Tr.lf) Tr.lf)
theorem ref_Floor_M3_ev (α : Type) (d : ref_Floor_M3_D) (k : Exit → St → Option α) : ev Try.prog R5 ref_Floor_M2_h 60 [0, 1, 1, 1, 1, 1, 1, 1, 1] ((codeAt (bodyOf Try.f39) [0, 1, 1, 1, 1, 1, 1, 1, 1]).getD .skip) ⟨mkS ref_Floor_M3_A (ref_Floor_M3_ofA d), mkH ref_Floor_M3_H (ref_Floor_M3_ofH d)⟩ (exitN 0 ref_Floor_M3_X k) = outOf (ref_Floor_M3 d.2.2.1 d.2.2.2.2.2.2) fun x => k (ref_Floor_M3_fin d x).1 (ref_Floor_M3_fin d x).2 := by
  obtain ⟨s1, s9, s11, m0_0, m0_1, m1_0, m1_1⟩ := d
  exact (show _ = ref_Floor_M3_t s11 m1_1 (fun x => k (ref_Floor_M3_fin (s1, s9, s11, m0_0, m0_1, m1_0, m1_1) x).1 (ref_Floor_M3_fin (s1, s9, s11, m0_0, m0_1, m1_0, m1_1) x).2) from by kernel_rfl).trans (ref_Floor_M3_t_eq s11 m1_1 _)
noncomputable def ref_Floor_M3_sp : CSpec := fun _ st k => reNorm 0 ref_Floor_M3_N ref_Floor_M3_A ref_Floor_M3_H st fun a m => outOf (ref_Floor_M3 (ref_Floor_M3_to a m).2.2.1 (ref_Floor_M3_to a m).2.2.2.2.2.2) fun v => sumOf v (fun v => k .ret ⟨[.any, .any, .any, .any, .lit (.int .i64 v.1), .lit (.int .i64 v.2.1), .lit (.int .i64 v.2.2), .any, .any, .any, .any, .any, .any, .any, .any, .any, .any, .any, .any, .any, .any, .any, .any, .any, .any, .any, .any, .any, .any, .any, .any, .any, .any, .any, .any, .any, .any, .any, .any, .any, .any, .any, .any, .any, .any, .any, .any, .any, .any, .any, .any, .any, .any, .any, .any, .any, .any, .any, .any, .any, .any, .any, .any, .any, .any, .any, .any, .any, .any, .any, .any], []⟩) (fun v => k .normal ⟨[.any, .lit (.int .i64 (ref_Floor_M3_to a m).1), .ptr 0 0 0, .any, .any, .any, .any, .any, .any, .lit (.int .i64 (ref_Floor_M3_to a m).2.1), .ptr 1 0 0, .lit (.bool (ref_Floor_M3_to a m).2.2.1), .any, .any, .any, .any, .any, .any, .any, .any, .any, .any, .any, .any, .any, .any, .any, .any, .any, .any, .any, .any, .any, .any, .any, .any, .any, .any, .any, .any, .any, .any, .any, .any, .any, .any, .any, .any, .any, .any, .any, .any, .any, .any, .any, .any, .any, .any, .any, .any, .any, .any, .any, .any, .any, .any, .any, .any, .any, .any, .any], [.box [.lit (.int .i64 (ref_Floor_M3_to a m).2.2.2.1), .lit (.int .i64 (ref_Floor_M3_to a m).2.2.2.2.1)], .box [.lit (.int .i64 (ref_Floor_M3_to a m).2.2.2.2.2.1), .lit (.int .i64 (ref_Floor_M3_to a m).2.2.2.2.2.2)]]⟩)
theorem ref_Floor_M3_ok : SumOK Try.prog 0 ((codeAt (bodyOf Try.f39) [0, 1, 1, 1, 1, 1, 1, 1, 1]).getD .skip) ref_Floor_M3_sp := (SumOK.once R5_ok mixed ref_Floor_M2_h_ok (show codeAt (bodyOf Try.f39) [0, 1, 1, 1, 1, 1, 1, 1, 1] = some ((codeAt (bodyOf Try.f39) [0, 1, 1, 1, 1, 1, 1, 1, 1]).getD .skip) from by kernel_rfl) (N := ref_Floor_M3_N) (Nx := ref_Floor_M3_X) (A := ref_Floor_M3_A) (Hs := ref_Floor_M3_H) (toD := ref_Floor_M3_to) (ofA := ref_Floor_M3_ofA) (ofH := ref_Floor_M3_ofH) (fun _ _ => rfl) (fun _ _ => rfl) (M := fun d => ref_Floor_M3 d.2.2.1 d.2.2.2.2.2.2) (fin := ref_Floor_M3_fin) 60 ref_Floor_M3_ev).mono fun α st k r h => by
  refine Eq.trans (congrArg (reNorm 0 ref_Floor_M3_N ref_Floor_M3_A ref_Floor_M3_H st) ?_) h
  funext a m
  exact outOf_congr fun x => by rcases x with x | x <;> rfl
noncomputable def ref_Floor_M3_h : Hints := ref_Floor_M2_h.add [0, 1, 1, 1, 1, 1, 1, 1, 1] ref_Floor_M3_sp
theorem ref_Floor_M3_h_ok : ref_Floor_M3_h.OK Try.prog (bodyOf Try.f39) := ref_Floor_M2_h_ok.add (show codeAt (bodyOf Try.f39) [0, 1, 1, 1, 1, 1, 1, 1, 1] = some ((codeAt (bodyOf Try.f39) [0, 1, 1, 1, 1, 1, 1, 1, 1]).getD .skip) from by kernel_rfl) ref_Floor_M3_ok
def ref_Floor_M4_A : List SD := [.any, .val (.int .i64), .loc 0 0 0, .any, .any, .any, .any, .any, .any, .val (.int .i64), .loc 1 0 0, .val .bool, .any, .any, .any, .any, .any, .any, .any, .any, .any, .any, .any, .any, .any, .any, .any, .any, .any, .any, .any, .any, .any, .any, .any, .any, .any, .any, .any, .any, .any, .any, .any, .any, .any, .any, .any, .any, .any, .any, .any, .any, .any, .any, .any, .any, .any, .any, .any, .any, .any, .any, .any, .any, .any, .any, .any, .any, .any, .any, .any]
def ref_Floor_M4_H : List HD := [.box [.val (.int .i64), .val (.int .i64)], .box [.val (.int .i64), .val (.int .i64)]]
abbrev ref_Floor_M4_D : Type := Int × Int × Bool × Int × Int × Int × Int
def ref_Floor_M4_to (a : DenS ref_Floor_M4_A) (m : DenH ref_Floor_M4_H) : ref_Floor_M4_D := (a.2.1, a.2.2.2.2.2.2.2.2.2.1, a.2.2.2.2.2.2.2.2.2.2.2.1, m.1.1, m.1.2.1, m.2.1.1, m.2.1.2.1)
def ref_Floor_M4_ofA (d : ref_Floor_M4_D) : DenS ref_Floor_M4_A := match d with | (s1, s9, s11, m0_0, m0_1, m1_0, m1_1) => ((), s1, (), (), (), (), (), (), (), s9, (), s11, (), (), (), (), (), (), (), (), (), (), (), (), (), (), (), (), (), (), (), (), (), (), (), (), (), (), (), (), (), (), (), (), (), (), (), (), (), (), (), (), (), (), (), (), (), (), (), (), (), (), (), (), (), (), (), (), (), (), (), ())
def ref_Floor_M4_ofH (d : ref_Floor_M4_D) : DenH ref_Floor_M4_H := match d with | (s1, s9, s11, m0_0, m0_1, m1_0, m1_1) => ((m0_0, m0_1, ()), (m1_0, m1_1, ()), ())
def ref_Floor_M4_N : Norm := (⟨[1, 2, 9, 10, 11], [], []⟩ : Norm)
def ref_Floor_M4_X : Exit → Norm := fun e => match e with | .normal => ⟨[1, 2, 9, 10, 11], [], []⟩ | _ => ⟨[], [], []⟩
abbrev ref_Floor_M4_R : Type := (Int × Int)
def ref_Floor_M4_fin (d : ref_Floor_M4_D) (v : ref_Floor_M4_R) : Exit × St := (.normal, ⟨[.any, .lit (.int .i64 d.1), .ptr 0 0 0, .any, .any, .any, .any, .any, .any, .lit (.int .i64 d.2.1), .ptr 1 0 0, .lit (.bool d.2.2.1), .any, .any, .any, .any, .any, .any, .any, .any, .any, .any, .any, .any, .any, .any, .any, .any, .any, .any, .any, .any, .any, .any, .any, .any, .any, .any, .any, .any, .any, .any, .any, .any, .any, .any, .any, .any, .any, .any, .any, .any, .any, .any, .any, .any, .any, .any, .any, .any, .any, .any, .any, .any, .any, .any, .any, .any, .any, .any, .any], [.box [.lit (.int .i64 d.2.2.2.1), .lit (.int .i64 d.2.2.2.2.1)], .box [.lit (.int .i64 v.1), .lit (.int .i64 v.2)]]⟩)
noncomputable def ref_Floor_M4_t {γ : Type} (s11 : Bool) (m1_0 : Int) (m1_1 : Int) (k : ref_Floor_M4_R → Option γ) : Option γ := cond s11 (outOf (ref_Neg m1_0 m1_1) fun (x2 : (Int × Int)) => k (Prod.fst x2, Prod.snd x2)) (k (m1_0, m1_1))
noncomputable def ref_Floor_M4 (s11 : Bool) (m1_0 : Int) (m1_1 : Int) : Option ref_Floor_M4_R := ref_Floor_M4_t s11 m1_0 m1_1 some
theorem ref_Floor_M4_t_eq {γ : Type} (s11 : Bool) (m1_0 : Int) (m1_1 : Int) (k : ref_Floor_M4_R → Option γ) : ref_Floor_M4_t s11 m1_0 m1_1 k = outOf (ref_Floor_M4 s11 m1_0 m1_1) k := by
  delta ref_Floor_M4 ref_Floor_M4_t; exact (Tr.nd (Tr.bd fun x2 => Tr.lf) Tr.lf)
theorem ref_Floor_M4_ev (α : Type) (d : ref_Floor_M4_D) (k : Exit → St → Option α) : ev Try.prog R5 ref_Floor_M3_h 60 [0, 1, 1, 1, 1, 1, 1, 1, 1, 1] ((codeAt (bodyOf Try.f39) [0, 1, 1, 1, 1, 1, 1, 1, 1, 1]).getD .skip) ⟨mkS ref_Floor_M4_A (ref_Floor_M4_ofA d), mkH ref_Floor_M4_H (ref_Floor_M4_ofH d)⟩ (exitN 0 ref_Floor_M4_X k) = outOf (ref_Floor_M4 d.2.2.1 d.2.2.2.2.2.1 d.2.2.2.2.2.2) fun x => k (ref_Floor_M4_fin d x).1 (ref_Floor_M4_fin d x).2 := by
  obtain ⟨s1, s9, s11, m0_0, m0_1, m1_0, m1_1⟩ := d
  exact (show _ = ref_Floor_M4_t s11 m1_0 m1_1 (fun x => k (ref_Floor_M4_fin (s1, s9, s11, m0_0, m0_1, m1_0, m1_1) x).1 (ref_Floor_M4_fin (s1, s9, s11, m0_0, m0_1, m1_0, m1_1) x).2) from by kernel_rfl).trans (ref_Floor_M4_t_eq s11 m1_0 m1_1 _)
noncomputable def ref_Floor_M4_sp : CSpec := fun _ st k => reNorm 0 ref_Floor_M4_N ref_Floor_M4_A ref_Floor_M4_H st fun a m => outOf (ref_Floor_M4 (ref_Floor_M4_to a m).2.2.1 (ref_Floor_M4_to a m).2.2.2.2.2.1 (ref_Floor_M4_to a m).2.2.2.2.2.2) fun v => k .normal ⟨[.any, .lit (.int .i64 (ref_Floor_M4_to a m).1), .ptr 0 0 0, .any, .any, .any, .any, .any, .any, .lit (.int .i64 (ref_Floor_M4_to a m).2.1), .ptr 1 0 0, .lit (.bool (ref_Floor_M4_to a m).2.2.1), .any, .any, .any, .any, .any, .any, .any, .any, .any, .any, .any, .any, .any, .any, .any, .any, .any, .any, .any, .any, .any, .any, .any, .any, .any, .any, .any, .any, .any, .any, .any, .any, .any, .any, .any, .any, .any, .any, .any, .any, .any, .any, .any, .any, .any, .any, .any, .any, .any, .any, .any, .any, .any, .any, .any, .any, .any, .any, .any], [.box [.lit (.int .i64 (ref_Floor_M4_to a m).2.2.2.1), .lit (.int .i64 (ref_Floor_M4_to a m).2.2.2.2.1)], .box [.lit (.int .i64 v.1), .lit (.int .i64 v.2)]]⟩
theorem ref_Floor_M4_ok : SumOK Try.prog 0 ((codeAt (bodyOf Try.f39) [0, 1, 1, 1, 1, 1, 1, 1, 1, 1]).getD .skip) ref_Floor_M4_sp := (SumOK.once R5_ok mixed ref_Floor_M3_h_ok (show codeAt (bodyOf Try.f39) [0, 1, 1, 1, 1, 1, 1, 1, 1, 1] = some ((codeAt (bodyOf Try.f39) [0, 1, 1, 1, 1, 1, 1, 1, 1, 1]).getD .skip) from by kernel_rfl) (N := ref_Floor_M4_N) (Nx := ref_Floor_M4_X) (A := ref_Floor_M4_A) (Hs := ref_Floor_M4_H) (toD := ref_Floor_M4_to) (ofA := ref_Floor_M4_ofA) (ofH := ref_Floor_M4_ofH) (fun _ _ => rfl) (fun _ _ => rfl) (M := fun d => ref_Floor_M4 d.2.2.1 d.2.2.2.2.2.1 d.2.2.2.2.2.2) (fin := ref_Floor_M4_fin) 60 ref_Floor_M4_ev).mono fun α st k r h => by
  refine Eq.trans (congrArg (reNorm 0 ref_Floor_M4_N ref_Floor_M4_A ref_Floor_M4_H st) ?_) h
  funext a m
  exact outOf_congr fun x => rfl
noncomputable def ref_Floor_M4_h : Hints := ref_Floor_M3_h.add [0, 1, 1, 1, 1, 1, 1, 1, 1, 1] ref_Floor_M4_sp
theorem ref_Floor_M4_h_ok : ref_Floor_M4_h.OK Try.prog (bodyOf Try.f39) := ref_Floor_M3_h_ok.add (show codeAt (bodyOf Try.f39) [0, 1, 1, 1, 1, 1, 1, 1, 1, 1] = some ((codeAt (bodyOf Try.f39) [0, 1, 1, 1, 1, 1, 1, 1, 1, 1]).getD .skip) from by kernel_rfl) ref_Floor_M4_ok
def ref_Floor_M5_A : List SD := [.any, .val (.int .i64), .loc 0 0 0, .any, .any, .any, .any, .any, .any, .val (.int .i64), .loc 1 0 0, .val .bool, .any, .any, .any, .any, .any, .any, .any, .any, .any, .any, .any, .any, .any, .any, .any, .any, .any, .any, .any, .any, .any, .any, .any, .any, .any, .any, .any, .any, .any, .any, .any, .any, .any, .any, .any, .any, .any, .any, .any, .any, .any, .any, .any, .any, .any, .any, .any, .any, .any, .any, .any, .any, .any, .any, .any, .any, .any, .any, .any]
def ref_Floor_M5_H : List HD := [.box [.val (.int .i64), .val (.int .i64)], .box [.val (.int .i64), .val (.int .i64)]]
abbrev ref_Floor_M5_D : Type := Int × Int × Bool × Int × Int × Int × Int
def ref_Floor_M5_to (a : DenS ref_Floor_M5_A) (m : DenH ref_Floor_M5_H) : ref_Floor_M5_D := (a.2.1, a.2.2.2.2.2.2.2.2.2.1, a.2.2.2.2.2.2.2.2.2.2.2.1, m.1.1, m.1.2.1, m.2.1.1, m.2.1.2.1)
def ref_Floor_M5_ofA (d : ref_Floor_M5_D) : DenS ref_Floor_M5_A := match d with | (s1, s9, s11, m0_0, m0_1, m1_0, m1_1) => ((), s1, (), (), (), (), (), (), (), s9, (), s11, (), (), (), (), (), (), (), (), (), (), (), (), (), (), (), (), (), (), (), (), (), (), (), (), (), (), (), (), (), (), (), (), (), (), (), (), (), (), (), (), (), (), (), (), (), (), (), (), (), (), (), (), (), (), (), (), (), (), (), ())
def ref_Floor_M5_ofH (d : ref_Floor_M5_D) : DenH ref_Floor_M5_H := match d with | (s1, s9, s11, m0_0, m0_1, m1_0, m1_1) => ((m0_0, m0_1, ()), (m1_0, m1_1, ()), ())
def ref_Floor_M5_N : Norm := (⟨[1, 2, 9, 10, 11], [], []⟩ : Norm)
def ref_Floor_M5_X : Exit → Norm := fun e => match e with | .normal => ⟨[1, 9, 10, 11], [], []⟩ | _ => ⟨[], [], []⟩
abbrev ref_Floor_M5_R : Type := (Int)
def ref_Floor_M5_fin (d : ref_Floor_M5_D) (v : ref_Floor_M5_R) : Exit × St := (.normal, ⟨[.any, .lit (.int .i64 d.1), .any, .any, .any, .any, .any, .any, .any, .lit (.int .i64 v), .ptr 0 0 0, .lit (.bool d.2.2.1), .any, .any, .any, .any, .any, .any, .any, .any, .any, .any, .any, .any, .any, .any, .any, .any, .any, .any, .any, .any, .any, .any, .any, .any, .any, .any, .any, .any, .any, .any, .any, .any, .any, .any, .any, .any, .any, .any, .any, .any, .any, .any, .any, .any, .any, .any, .any, .any, .any, .any, .any, .any, .any, .any, .any, .any, .any, .any, .any], [.box [.lit (.int .i64 d.2.2.2.2.2.1), .lit (.int .i64 d.2.2.2.2.2.2)]]⟩)
noncomputable def ref_Floor_M5_t {γ : Type} (s9 : Int) (m0_1 : Int) (k : ref_Floor_M5_R → Option γ) : Option γ := cond (decide (m0_1 < (0 : Int))) (k (IntKind.wrap IntKind.i64 ((0 : Int) - s9))) (k (s9))
noncomputable def ref_Floor_M5 (s9 : Int) (m0_1 : Int) : Option ref_Floor_M5_R := ref_Floor_M5_t s9 m0_1 some
theorem ref_Floor_M5_t_eq {γ : Type} (s9 : Int) (m0_1 : Int) (k : ref_Floor_M5_R → Option γ) : ref_Floor_M5_t s9 m0_1 k = outOf (ref_Floor_M5 s9 m0_1) k := by
  delta ref_Floor_M5 ref_Floor_M5_t; exact (Tr.nd Tr.lf Tr.lf)
theorem ref_Floor_M5_ev (α : Type) (d : ref_Floor_M5_D) (k : Exit → St → Option α) : ev Try.prog R5 ref_Floor_M4_h 60 [0, 1, 1, 1, 1, 1, 1, 1, 1, 1, 1] ((codeAt (bodyOf Try.f39) [0, 1, 1, 1, 1, 1, 1, 1, 1, 1, 1]).getD .skip) ⟨mkS ref_Floor_M5_A (ref_Floor_M5_ofA d), mkH ref_Floor_M5_H (ref_Floor_M5_ofH d)⟩ (exitN 0 ref_Floor_M5_X k) = outOf (ref_Floor_M5 d.2.1 d.2.2.2.2.1) fun x => k (ref_Floor_M5_fin d x).1 (ref_Floor_M5_fin d x).2 := by
  obtain ⟨s1, s9, s11, m0_0, m0_1, m1_0, m1_1⟩ := d
  exact (show _ = ref_Floor_M5_t s9 m0_1 (fun x => k (ref_Floor_M5_fin (s1, s9, s11, m0_0, m0_1, m1_0, m1_1) x).1 (ref_Floor_M5_fin (s1, s9, s11, m0_0, m0_1, m1_0, m1_1) x).2) from by kernel_rfl).trans (ref_Floor_M5_t_eq s9 m0_1 _)
noncomputable def ref_Floor_M5_sp : CSpec := fun _ st k => reNorm 0 ref_Floor_M5_N ref_Floor_M5_A ref_Floor_M5_H st fun a m => outOf (ref_Floor_M5 (ref_Floor_M5_to a m).2.1 (ref_Floor_M5_to a m).2.2.2.2.1) fun v => k .normal ⟨[.any, .lit (.int .i64 (ref_Floor_M5_to a m).1), .any, .any, .any, .any, .any, .any, .any, .lit (.int .i64 v), .ptr 0 0 0, .lit (.bool (ref_Floor_M5_to a m).2.2.1), .any, .any, .any, .any, .any, .any, .any, .any, .any, .any, .any, .any, .any, .any, .any, .any, .any, .any, .any, .any, .any, .any, .any, .any, .any, .any, .any, .any, .any, .any, .any, .any, .any, .any, .any, .any, .any, .any, .any, .any, .any, .any, .any, .any, .any, .any, .any, .any, .any, .any, .any, .any, .any, .any, .any, .any, .any, .any, .any], [.box [.lit (.int .i64 (ref_Floor_M5_to a m).2.2.2.2.2.1), .lit (.int .i64 (ref_Floor_M5_to a m).2.2.2.2.2.2)]]⟩
theorem ref_Floor_M5_ok : SumOK Try.prog 0 ((codeAt (bodyOf Try.f39) [0, 1, 1, 1, 1, 1, 1, 1, 1, 1, 1]).getD .skip) ref_Floor_M5_sp := (SumOK.once R5_ok mixed ref_Floor_M4_h_ok (show codeAt (bodyOf Try.f39) [0, 1, 1, 1, 1, 1, 1, 1, 1, 1, 1] = some ((codeAt (bodyOf Try.f39) [0, 1, 1, 1, 1, 1, 1, 1, 1, 1, 1]).getD .skip) from by kernel_rfl) (N := ref_Floor_M5_N) (Nx := ref_Floor_M5_X) (A := ref_Floor_M5_A) (Hs := ref_Floor_M5_H) (toD := ref_Floor_M5_to) (ofA := ref_Floor_M5_ofA) (ofH := ref_Floor_M5_ofH) (fun _ _ => rfl) (fun _ _ => rfl) (M := fun d => ref_Floor_M5 d.2.1 d.2.2.2.2.1) (fin := ref_Floor_M5_fin) 60 ref_Floor_M5_ev).mono fun α st k r h => by
  refine Eq.trans (congrArg (reNorm 0 ref_Floor_M5_N ref_Floor_M5_A ref_Floor_M5_H st) ?_) h
  funext a m
  exact outOf_congr fun x => rfl
noncomputable def ref_Floor_M5_h : Hints := ref_Floor_M4_h.add [0, 1, 1, 1, 1, 1, 1, 1, 1, 1, 1] ref_Floor_M5_sp
theorem ref_Floor_M5_h_ok : ref_Floor_M5_h.OK Try.prog (bodyOf Try.f39) := ref_Floor_M4_h_ok.add (show codeAt (bodyOf Try.f39) [0, 1, 1, 1, 1, 1, 1, 1, 1, 1, 1] = some ((codeAt (bodyOf Try.f39) [0, 1, 1, 1, 1, 1, 1, 1, 1, 1, 1]).getD .skip) from by kernel_rfl) ref_Floor_M5_ok
def ref_Floor_M6_A : List SD := [.any, .val (.int .i64), .any, .any, .any, .any, .any, .any, .any, .val (.int .i64), .loc 0 0 0, .val .bool, .any, .any, .any, .any, .any, .any, .any, .any, .any, .any, .any, .any, .any, .any, .any, .any, .any, .any, .any, .any, .any, .any, .any, .any, .any, .any, .any, .any, .any, .any, .any, .any, .any, .any, .any, .any, .any, .any, .any, .any, .any, .any, .any, .any, .any, .any, .any, .any, .any, .any, .any, .any, .any, .any, .any, .any, .any, .any, .any]
def ref_Floor_M6_H : List HD := [.box [.val (.int .i64), .val (.int .i64)]]
abbrev ref_Floor_M6_D : Type := Int × Int × Bool × Int × Int
def ref_Floor_M6_to (a : DenS ref_Floor_M6_A) (m : DenH ref_Floor_M6_H) : ref_Floor_M6_D := (a.2.1, a.2.2.2.2.2.2.2.2.2.1, a.2.2.2.2.2.2.2.2.2.2.2.1, m.1.1, m.1.2.1)
def ref_Floor_M6_ofA (d : ref_Floor_M6_D) : DenS ref_Floor_M6_A := match d with | (s1, s9, s11, m0_0, m0_1) => ((), s1, (), (), (), (), (), (), (), s9, (), s11, (), (), (), (), (), (), (), (), (), (), (), (), (), (), (), (), (), (), (), (), (), (), (), (), (), (), (), (), (), (), (), (), (), (), (), (), (), (), (), (), (), (), (), (), (), (), (), (), (), (), (), (), (), (), (), (), (), (), (), ())
def ref_Floor_M6_ofH (d : ref_Floor_M6_D) : DenH ref_Floor_M6_H := match d with | (s1, s9, s11, m0_0, m0_1) => ((m0_0, m0_1, ()), ())
def ref_Floor_M6_N : Norm := (⟨[1, 9, 10, 11], [], []⟩ : Norm)
def ref_Floor_M6_X : Exit → Norm := fun e => match e with | .normal => ⟨[1, 9, 10, 56], [], []⟩ | _ => ⟨[], [], []⟩
abbrev ref_Floor_M6_R : Type := (Bool)
def ref_Floor_M6_fin (d : ref_Floor_M6_D) (v : ref_Floor_M6_R) : Exit × St := (.normal, ⟨[.any, .lit (.int .i64 d.1), .any, .any, .any, .any, .any, .any, .any, .lit (.int .i64 d.2.1), .ptr 0 0 0, .any, .any, .any, .any, .any, .any, .any, .any, .any, .any, .any, .any, .any, .any, .any, .any, .any, .any, .any, .any, .any, .any, .any, .any, .any, .any, .any, .any, .any, .any, .any, .any, .any, .any, .any, .any, .any, .any, .any, .any, .any, .any, .any, .any, .any, .lit (.bool v), .any, .any, .any, .any, .any, .any, .any, .any, .any, .any, .any, .any, .any, .any], [.box [.lit (.int .i64 d.2.2.2.1), .lit (.int .i64 d.2.2.2.2)]]⟩)
noncomputable def ref_Floor_M6_t {γ : Type} (s9 : Int) (s11 : Bool) (k : ref_Floor_M6_R → Option γ) : Option γ := cond s11 (k (s9 != (0 : Int))) (k (false))
noncomputable def ref_Floor_M6 (s9 : Int) (s11 : Bool) : Option ref_Floor_M6_R := ref_Floor_M6_t s9 s11 some
theorem ref_Floor_M6_t_eq {γ : Type} (s9 : Int) (s11 : Bool) (k : ref_Floor_M6_R → Option γ) : ref_Floor_M6_t s9 s11 k = outOf (ref_Floor_M6 s9 s11) k := by
  delta ref_Floor_M6 ref_Floor_M6_t; exact (Tr.nd Tr.lf Tr.lf)
theorem ref_Floor_M6_ev (α : Type) (d : ref_Floor_M6_D) (k : Exit → St → Option α) : ev Try.prog R5 ref_Floor_M5_h 60 [0, 0, 1, 1, 1, 1, 1, 1, 1, 1, 1, 1, 1] ((codeAt (bodyOf Try.f39) [0, 0, 1, 1, 1, 1, 1, 1, 1, 1, 1, 1, 1]).getD .skip) ⟨mkS ref_Floor_M6_A (ref_Floor_M6_ofA d), mkH ref_Floor_M6_H (ref_Floor_M6_ofH d)⟩ (exitN 0 ref_Floor_M6_X k) = outOf (ref_Floor_M6 d.2.1 d.2.2.1) fun x => k (ref_Floor_M6_fin d x).1 (ref_Floor_M6_fin d x).2 := by
  obtain ⟨s1, s9, s11, m0_0, m0_1⟩ := d
  exact (show _ = ref_Floor_M6_t s9 s11 (fun x => k (ref_Floor_M6_fin (s1, s9, s11, m0_0, m0_1) x).1 (ref_Floor_M6_fin (s1, s9, s11, m0_0, m0_1) x).2) from by kernel_rfl).trans (ref_Floor_M6_t_eq s9 s11 _)
noncomputable def ref_Floor_M6_sp : CSpec := fun _ st k => reNorm 0 ref_Floor_M6_N ref_Floor_M6_A ref_Floor_M6_H st fun a m => outOf (ref_Floor_M6 (ref_Floor_M6_to a m).2.1 (ref_Floor_M6_to a m).2.2.1) fun v => k .normal ⟨[.any, .lit (.int .i64 (ref_Floor_M6_to a m).1), .any, .any, .any, .any, .any, .any, .any, .lit (.int .i64 (ref_Floor_M6_to a m).2.1), .ptr 0 0 0, .any, .any, .any, .any, .any, .any, .any, .any, .any, .any, .any, .any, .any, .any, .any, .any, .any, .any, .any, .any, .any, .any, .any, .any, .any, .any, .any, .any, .any, .any, .any, .any, .any, .any, .any, .any, .any, .any, .any, .any, .any, .any, .any, .any, .any, .lit (.bool v), .any, .any, .any, .any, .any, .any, .any, .any, .any, .any, .any, .any, .any, .any], [.box [.lit (.int .i64 (ref_Floor_M6_to a m).2.2.2.1), .lit (.int .i64 (ref_Floor_M6_to a m).2.2.2.2)]]⟩
theorem ref_Floor_M6_ok : SumOK Try.prog 0 ((codeAt (bodyOf Try.f39) [0, 0, 1, 1, 1, 1, 1, 1, 1, 1, 1, 1, 1]).getD .skip) ref_Floor_M6_sp := (SumOK.once R5_ok mixed ref_Floor_M5_h_ok (show codeAt (bodyOf Try.f39) [0, 0, 1, 1, 1, 1, 1, 1, 1, 1, 1, 1, 1] = some ((codeAt (bodyOf Try.f39) [0, 0, 1, 1, 1, 1, 1, 1, 1, 1, 1, 1, 1]).getD .skip) from by kernel_rfl) (N := ref_Floor_M6_N) (Nx := ref_Floor_M6_X) (A := ref_Floor_M6_A) (Hs := ref_Floor_M6_H) (toD := ref_Floor_M6_to) (ofA := ref_Floor_M6_ofA) (ofH := ref_Floor_M6_ofH) (fun _ _ => rfl) (fun _ _ => rfl) (M := fun d => ref_Floor_M6 d.2.1 d.2.2.1) (fin := ref_Floor_M6_fin) 60 ref_Floor_M6_ev).mono fun α st k r h => by
  refine Eq.trans (congrArg (reNorm 0 ref_Floor_M6_N ref_Floor_M6_A ref_Floor_M6_H st) ?_) h
  funext a m
  exact outOf_congr fun x => rfl
noncomputable def ref_Floor_M6_h : Hints := ref_Floor_M5_h.add [0, 0, 1, 1, 1, 1, 1, 1, 1, 1, 1, 1, 1] ref_Floor_M6_sp
theorem ref_Floor_M6_h_ok : ref_Floor_M6_h.OK Try.prog (bodyOf Try.f39) := ref_Floor_M5_h_ok.add (show codeAt (bodyOf Try.f39) [0, 0, 1, 1, 1, 1, 1, 1, 1, 1, 1, 1, 1] = some ((codeAt (bodyOf Try.f39) [0, 0, 1, 1, 1, 1, 1, 1, 1, 1, 1, 1, 1]).getD .skip) from by kernel_rfl) ref_Floor_M6_ok
def ref_Floor_M7_A : List SD := [.any, .val (.int .i64), .any, .any, .any, .any, .any, .any, .any, .val (.int .i64), .loc 0 0 0, .val .bool, .any, .any, .any, .any, .any, .any, .any, .any, .any, .any, .any, .any, .any, .any, .any, .any, .any, .any, .any, .any, .any, .any, .any, .any, .any, .any, .any, .any, .any, .any, .any, .any, .any, .any, .any, .any, .any, .any, .any, .any, .any, .any, .any, .any, .any, .any, .any, .any, .any, .any, .any, .any, .any, .any, .any, .any, .any, .any, .any]
def ref_Floor_M7_H : List HD := [.box [.val (.int .i64), .val (.int .i64)]]
abbrev ref_Floor_M7_D : Type := Int × Int × Bool × Int × Int
def ref_Floor_M7_to (a : DenS ref_Floor_M7_A) (m : DenH ref_Floor_M7_H) : ref_Floor_M7_D := (a.2.1, a.2.2.2.2.2.2.2.2.2.1, a.2.2.2.2.2.2.2.2.2.2.2.1, m.1.1, m.1.2.1)
def ref_Floor_M7_ofA (d : ref_Floor_M7_D) : DenS ref_Floor_M7_A := match d with | (s1, s9, s11, m0_0, m0_1) => ((), s1, (), (), (), (), (), (), (), s9, (), s11, (), (), (), (), (), (), (), (), (), (), (), (), (), (), (), (), (), (), (), (), (), (), (), (), (), (), (), (), (), (), (), (), (), (), (), (), (), (), (), (), (), (), (), (), (), (), (), (), (), (), (), (), (), (), (), (), (), (), (), ())
def ref_Floor_M7_ofH (d : ref_Floor_M7_D) : DenH ref_Floor_M7_H := match d with | (s1, s9, s11, m0_0, m0_1) => ((m0_0, m0_1, ()), ())
def ref_Floor_M7_N : Norm := (⟨[1, 9, 10, 11], [], []⟩ : Norm)
def ref_Floor_M7_X : Exit → Norm := fun e => match e with | .normal => ⟨[9, 10], [], []⟩ | _ => ⟨[], [], []⟩
abbrev ref_Floor_M7_R : Type := (Int × Int × Int)
def ref_Floor_M7_fin (d : ref_Floor_M7_D) (v : ref_Floor_M7_R) : Exit × St := (.normal, ⟨[.any, .any, .any, .any, .any, .any, .any, .any, .any, .lit (.int .i64 v.1), .ptr 0 0 0, .any, .any, .any, .any, .any, .any, .any, .any, .any, .any, .any, .any, .any, .any, .any, .any, .any, .any, .any, .any, .any, .any, .any, .any, .any, .any, .any, .any, .any, .any, .any, .any, .any, .any, .any, .any, .any, .any, .any, .any, .any, .any, .any, .any, .any, .any, .any, .any, .any, .any, .any, .any, .any, .any, .any, .any, .any, .any, .any, .any], [.box [.lit (.int .i64 v.2.1), .lit (.int .i64 v.2.2)]]⟩)
noncomputable def ref_Floor_M7_t {γ : Type} (s1 : Int) (s9 : Int) (s11 : Bool) (m0_0 : Int) (m0_1 : Int) (k : ref_Floor_M7_R → Option γ) : Option γ := outOf (ref_Floor_M6 s9 s11) fun (x3 : Bool) => cond x3 (outOf (ref_Add m0_0 m0_1 (-1 : Int) (-1 : Int)) fun (x4 : (Int × Int)) => k (IntKind.wrap IntKind.i64 (s9 + s1), Prod.fst x4, Prod.snd x4)) (k (s9, m0_0, m0_1))
noncomputable def ref_Floor_M7 (s1 : Int) (s9 : Int) (s11 : Bool) (m0_0 : Int) (m0_1 : Int) : Option ref_Floor_M7_R := ref_Floor_M7_t s1 s9 s11 m0_0 m0_1 some
theorem ref_Floor_M7_t_eq {γ : Type} (s1 : Int) (s9 : Int) (s11 : Bool) (m0_0 : Int) (m0_1 : Int) (k : ref_Floor_M7_R → Option γ) : ref_Floor_M7_t s1 s9 s11 m0_0 m0_1 k = outOf (ref_Floor_M7 s1 s9 s11 m0_0 m0_1) k := by
  delta ref_Floor_M7 ref_Floor_M7_t; exact (Tr.bd fun x3 => (Tr.nd (Tr.bd fun x4 => Tr.lf) Tr.lf))
theorem ref_Floor_M7_ev (α : Type) (d : ref_Floor_M7_D) (k : Exit → St → Option α) : ev Try.prog R5 ref_Floor_M6_h 60 [0, 1, 1, 1, 1, 1, 1, 1, 1, 1, 1, 1] ((codeAt (bodyOf Try.f39) [0, 1, 1, 1, 1, 1, 1, 1, 1, 1, 1, 1]).getD .skip) ⟨mkS ref_Floor_M7_A (ref_Floor_M7_ofA d), mkH ref_Floor_M7_H (ref_Floor_M7_ofH d)⟩ (exitN 0 ref_Floor_M7_X k) = outOf (ref_Floor_M7 d.1 d.2.1 d.2.2.1 d.2.2.2.1 d.2.2.2.2) fun x => k (ref_Floor_M7_fin d x).1 (ref_Floor_M7_fin d x).2 := by
  obtain ⟨s1, s9, s11, m0_0, m0_1⟩ := d
  exact (show _ = ref_Floor_M7_t s1 s9 s11 m0_0 m0_1 (fun x => k (ref_Floor_M7_fin (s1, s9, s11, m0_0, m0_1) x).1 (ref_Floor_M7_fin (s1, s9, s11, m0_0, m0_1) x).2) from by kernel_rfl).trans (ref_Floor_M7_t_eq s1 s9 s11 m0_0 m0_1 _)
noncomputable def ref_Floor_M7_sp : CSpec := fun _ st k => reNorm 0 ref_Floor_M7_N ref_Floor_M7_A ref_Floor_M7_H st fun a m => outOf (ref_Floor_M7 (ref_Floor_M7_to a m).1 (ref_Floor_M7_to a m).2.1 (ref_Floor_M7_to a m).2.2.1 (ref_Floor_M7_to a m).2.2.2.1 (ref_Floor_M7_to a m).2.2.2.2) fun v => k .normal ⟨[.any, .any, .any, .any, .any, .any, .any, .any, .any, .lit (.int .i64 v.1), .ptr 0 0 0, .any, .any, .any, .any, .any, .any, .any, .any, .any, .any, .any, .any, .any, .any, .any, .any, .any, .any, .any, .any, .any, .any, .any, .any, .any, .any, .any, .any, .any, .any, .any, .any, .any, .any, .any, .any, .any, .any, .any, .any, .any, .any, .any, .any, .any, .any, .any, .any, .any, .any, .any, .any, .any, .any, .any, .any, .any, .any, .any, .any], [.box [.lit (.int .i64 v.2.1), .lit (.int .i64 v.2.2)]]⟩
theorem ref_Floor_M7_ok : SumOK Try.prog 0 ((codeAt (bodyOf Try.f39) [0, 1, 1, 1, 1, 1, 1, 1, 1, 1, 1, 1]).getD .skip) ref_Floor_M7_sp := (SumOK.once R5_ok mixed ref_Floor_M6_h_ok (show codeAt (bodyOf Try.f39) [0, 1, 1, 1, 1, 1, 1, 1, 1, 1, 1, 1] = some ((codeAt (bodyOf Try.f39) [0, 1, 1, 1, 1, 1, 1, 1, 1, 1, 1, 1]).getD .skip) from by kernel_rfl) (N := ref_Floor_M7_N) (Nx := ref_Floor_M7_X) (A := ref_Floor_M7_A) (Hs := ref_Floor_M7_H) (toD := ref_Floor_M7_to) (ofA := ref_Floor_M7_ofA) (ofH := ref_Floor_M7_ofH) (fun _ _ => rfl) (fun _ _ => rfl) (M := fun d => ref_Floor_M7 d.1 d.2.1 d.2.2.1 d.2.2.2.1 d.2.2.2.2) (fin := ref_Floor_M7_fin) 60 ref_Floor_M7_ev).mono fun α st k r h => by
  refine Eq.trans (congrArg (reNorm 0 ref_Floor_M7_N ref_Floor_M7_A ref_Floor_M7_H st) ?_) h
  funext a m
  exact outOf_congr fun x => rfl
noncomputable def ref_Floor_M7_h : Hints := ref_Floor_M6_h.add [0, 1, 1, 1, 1, 1, 1, 1, 1, 1, 1, 1] ref_Floor_M7_sp
theorem ref_Floor_M7_h_ok : ref_Floor_M7_h.OK Try.prog (bodyOf Try.f39) := ref_Floor_M6_h_ok.add (show codeAt (bodyOf Try.f39) [0, 1, 1, 1, 1, 1, 1, 1, 1, 1, 1, 1] = some ((codeAt (bodyOf Try.f39) [0, 1, 1, 1, 1, 1, 1, 1, 1, 1, 1, 1]).getD .skip) from by kernel_rfl) ref_Floor_M7_ok
abbrev ref_Floor_R : Type := (Int × Int × Int)
noncomputable def ref_Floor_t {γ : Type} (a0_0 : Int) (a0_1 : Int) (a1 : Int) (k : ref_Floor_R → Option γ) : Option γ := cond (a1 == (0 : Int)) (k ((0 : Int), (0 : Int), (-10 : Int))) (outOf (ref_Floor_M1 a0_0 a0_1 a0_0 a0_1) fun (x5 : (Int × Int)) => outOf (ref_Floor_M2 a1 a1) fun (x6 : Int) => outOf (ref_divide (Prod.fst x5) (Prod.snd x5) x6) fun (x7 : (Int × (Int × Int))) => outOf (ref_Floor_M3 (!decide (a0_1 < (0 : Int)) == decide (a1 < (0 : Int))) (Prod.snd (Prod.snd x7))) fun (x8 : Int × Int × Int ⊕ Unit) => sumOf x8 (fun x9 => k (Prod.fst x9, Prod.fst (Prod.snd x9), Prod.snd (Prod.snd x9))) (fun x10 => outOf (ref_Floor_M4 (!decide (a0_1 < (0 : Int)) == decide (a1 < (0 : Int))) (Prod.fst (Prod.snd x7)) (Prod.snd (Prod.snd x7))) fun (x11 : (Int × Int)) => outOf (ref_Floor_M5 (Prod.fst x7) a0_1) fun (x12 : Int) => outOf (ref_Floor_M7 a1 x12 (!decide (a0_1 < (0 : Int)) == decide (a1 < (0 : Int))) (Prod.fst x11) (Prod.snd x11)) fun (x13 : (Int × (Int × Int))) => outOf (ref_Of (Prod.fst (Prod.snd x13))) fun (x14 : (Int × Int)) => cond (!(Prod.fst (Prod.snd x13) == Prod.fst x14 && (Prod.snd (Prod.snd x13) == Prod.snd x14 && true))) (k ((0 : Int), (0 : Int), (-11 : Int))) (k (Prod.fst x13, Prod.fst (Prod.snd x13), (0 : Int)))))
noncomputable def ref_Floor (a0_0 : Int) (a0_1 : Int) (a1 : Int) : Option ref_Floor_R := ref_Floor_t a0_0 a0_1 a1 some
theorem ref_Floor_t_eq {γ : Type} (a0_0 : Int) (a0_1 : Int) (a1 : Int) (k : ref_Floor_R → Option γ) : ref_Floor_t a0_0 a0_1 a1 k = outOf (ref_Floor a0_0 a0_1 a1) k := by
  delta ref_Floor ref_Floor_t; exact (Tr.nd Tr.lf (Tr.bd fun x5 => (Tr.bd fun x6 => (Tr.bd fun x7 => (Tr.bd fun x8 => (Tr.cs (fun x9 => Tr.lf) (fun x10 => (Tr.bd fun x11 => (Tr.bd fun x12 => (Tr.bd fun x13 => (Tr.bd fun x14 => (Tr.nd Tr.lf Tr.lf))))))))))))
noncomputable def ref_Floor_sp : TX.Spec := specD [.agg (.pair (.int .i64) (.int .i64)), .val (.int .i64)] [] fun _ a m k => match a, m with | ⟨⟨a0_0, a0_1⟩, a1, _⟩, _ => outOf (ref_Floor a0_0 a0_1 a1) fun v => k (.tup [.lit (.int .i64 v.1), .lit (.int .i64 v.2.1), .lit (.int .i64 v.2.2)]) []
theorem ref_Floor_ev {α : Type} (a0_0 : Int) (a0_1 : Int) (a1 : Int) (k : Kont α) : evFun Try.prog R5 (ref_Floor_M7_h) false Try.f39 (bodyOf Try.f39) 60 (mkS [.agg (.pair (.int .i64) (.int .i64)), .val (.int .i64)] ((a0_0, a0_1), a1, ())) (mkH [] ()) k = outOf (ref_Floor a0_0 a0_1 a1) fun v => k (.tup [.lit (.int .i64 v.1), .lit (.int .i64 v.2.1), .lit (.int .i64 v.2.2)]) [] :=
  (show _ = ref_Floor_t a0_0 a0_1 a1 (fun v => k (.tup [.lit (.int .i64 v.1), .lit (.int .i64 v.2.1), .lit (.int .i64 v.2.2)]) []) from by kernel_rfl).trans (ref_Floor_t_eq a0_0 a0_1 a1 _)
theorem ref_Floor_good : TX.Good Try.prog 39 ref_Floor_sp := good_form R5_ok mixed Try.func39 (body_of rfl) (by kernel_rfl) false fun α a m k r h => by
  obtain ⟨⟨a0_0, a0_1⟩, a1, _⟩ := a; obtain _ := m
  exact ⟨ref_Floor_M7_h, 60, ref_Floor_M7_h_ok, rfl, (ref_Floor_ev a0_0 a0_1 a1 k).trans h⟩
noncomputable def R6 : Env := R5.add 37 true ref_UMod_sp |>.add 38 true ref_Symm_sp |>.add 39 true ref_Floor_sp
theorem R6_ok : R6.OK Try.prog := ((R5_ok.add_ok ref_UMod_good).add_ok ref_Symm_good).add_ok ref_Floor_good
/-! f41 tenterhook/tenterhookref02.Scale -/
def ref_Scale_h0 : Hints := Hints.nil 0
theorem ref_Scale_h0_ok : ref_Scale_h0.OK Try.prog (bodyOf Try.f41) := Hints.nil_ok
abbrev ref_Scale_R : Type := (Int × Int × Int)
noncomputable def ref_Scale_t {γ : Type} (a0 : Int) (a1 : Int) (a2 : Int) (k : ref_Scale_R → Option γ) : Option γ := outOf (ref_Mul a0 a1) fun (x1 : (Int × Int)) => outOf (ref_Floor (Prod.fst x1) (Prod.snd x1) a2) fun (x2 : (Int × (Int × Int))) => k (Prod.fst x2, Prod.fst (Prod.snd x2), Prod.snd (Prod.snd x2))
noncomputable def ref_Scale (a0 : Int) (a1 : Int) (a2 : Int) : Option ref_Scale_R := ref_Scale_t a0 a1 a2 some
theorem ref_Scale_t_eq {γ : Type} (a0 : Int) (a1 : Int) (a2 : Int) (k : ref_Scale_R → Option γ) : ref_Scale_t a0 a1 a2 k = outOf (ref_Scale a0 a1 a2) k := by
  delta ref_Scale ref_Scale_t; exact (Tr.bd fun x1 => (Tr.bd fun x2 => Tr.lf))
noncomputable def ref_Scale_sp : TX.Spec := specD [.val (.int .i64), .val (.int .i64), .val (.int .i64)] [] fun _ a m k => match a, m with | ⟨a0, a1, a2, _⟩, _ => outOf (ref_Scale a0 a1 a2) fun v => k (.tup [.lit (.int .i64 v.1), .lit (.int .i64 v.2.1), .lit (.int .i64 v.2.2)]) []
theorem ref_Scale_ev {α : Type} (a0 : Int) (a1 : Int) (a2 : Int) (k : Kont α) : evFun Try.prog R6 (ref_Scale_h0) false Try.f41 (bodyOf Try.f41) 60 (mkS [.val (.int .i64), .val (.int .i64), .val (.int .i64)] (a0, a1, a2, ())) (mkH [] ()) k = outOf (ref_Scale a0 a1 a2) fun v => k (.tup [.lit (.int .i64 v.1), .lit (.int .i64 v.2.1), .lit (.int .i64 v.2.2)]) [] :=
  (show _ = ref_Scale_t a0 a1 a2 (fun v => k (.tup [.lit (.int .i64 v.1), .lit (.int .i64 v.2.1), .lit (.int .i64 v.2.2)]) []) from by kernel_rfl).trans (ref_Scale_t_eq a0 a1 a2 _)
theorem ref_Scale_good : TX.Good Try.prog 41 ref_Scale_sp := good_form R6_ok mixed Try.func41 (body_of rfl) (by kernel_rfl) false fun α a m k r h => by
  obtain ⟨a0, a1, a2, _⟩ := a; obtain _ := m
  exact ⟨ref_Scale_h0, 60, ref_Scale_h0_ok, rfl, (ref_Scale_ev a0 a1 a2 k).trans h⟩
noncomputable def R7 : Env := R6.add 41 true ref_Scale_sp
theorem R7_ok : R7.OK Try.prog := R6_ok.add_ok ref_Scale_good
end Go.Proofs.Dbl
