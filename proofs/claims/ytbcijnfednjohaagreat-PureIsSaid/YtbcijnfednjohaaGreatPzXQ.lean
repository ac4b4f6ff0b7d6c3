import Derived.Test.YtbcijnfednjohaaGreatPzXB
namespace Go.Proofs.Dbl
open Go Go.TX Go.Proofs
set_option maxRecDepth 100000
set_option linter.unusedVariables false
set_option maxHeartbeats 0
def ref_Bit_h0 : Hints := Hints.nil 0
theorem ref_Bit_h0_ok : ref_Bit_h0.OK Tryz.prog (bodyOf Tryz.f133) := Hints.nil_ok
abbrev ref_Bit_R : Type := (Int)
noncomputable def ref_Bit_t {γ : Type} (a0 : Int) (a1 : Int) (k : ref_Bit_R → Option γ) : Option γ := cond (decide (a1 < (0 : Int))) (k ((0 : Int))) (cond (decide (a1 > (63 : Int))) (k ((0 : Int))) (cond (decide (IntKind.wrap IntKind.u64 a1 < (0 : Int))) (none) (k (IntKind.wrap IntKind.i64 (ibits BinOp.and IntKind.u64 (Int.fdiv (IntKind.wrap IntKind.u64 a0) ((2 : Int) ^ min (Int.toNat (IntKind.wrap IntKind.u64 a1)) (64 : Nat))) (1 : Int))))))
noncomputable def ref_Bit (a0 : Int) (a1 : Int) : Option ref_Bit_R := ref_Bit_t a0 a1 some
theorem ref_Bit_t_eq {γ : Type} (a0 : Int) (a1 : Int) (k : ref_Bit_R → Option γ) : ref_Bit_t a0 a1 k = outOf (ref_Bit a0 a1) k := by
  delta ref_Bit ref_Bit_t; exact (Tr.nd Tr.lf (Tr.nd Tr.lf (Tr.nd Tr.no Tr.lf)))
noncomputable def ref_Bit_sp : TX.Spec := specD [.val (.int .i64), .val (.int .i64)] [] fun _ a m k => match a, m with | ⟨a0, a1, _⟩, _ => outOf (ref_Bit a0 a1) fun v => k (.lit (.int .i64 v)) []
theorem ref_Bit_ev {α : Type} (a0 : Int) (a1 : Int) (k : Kont α) : evFun Tryz.prog O5 (ref_Bit_h0) false Tryz.f133 (bodyOf Tryz.f133) 60 (mkS [.val (.int .i64), .val (.int .i64)] (a0, a1, ())) (mkH [] ()) k = outOf (ref_Bit a0 a1) fun v => k (.lit (.int .i64 v)) [] :=
  (show _ = ref_Bit_t a0 a1 (fun v => k (.lit (.int .i64 v)) []) from by kernel_rfl).trans (ref_Bit_t_eq a0 a1 _)
theorem ref_Bit_good : TX.Good Tryz.prog 133 ref_Bit_sp := good_form O5_ok mixed Tryz.func133 (body_of rfl) (by kernel_rfl) false fun α a m k r h => by
  obtain ⟨a0, a1, _⟩ := a; obtain _ := m
  exact ⟨ref_Bit_h0, 60, ref_Bit_h0_ok, rfl, (ref_Bit_ev a0 a1 k).trans h⟩
def ref_Make_h0 : Hints := Hints.nil 0
theorem ref_Make_h0_ok : ref_Make_h0.OK Tryz.prog (bodyOf Tryz.f134) := Hints.nil_ok
def ref_Make_L1_A : List SD := [.val (.sl (.int .i64)), .any, .any, .val (.int .u64), .val (.int .i64), .any, .any, .any, .any, .any, .any, .any, .any, .any, .any, .any, .any, .any, .any, .any, .any, .any, .any, .any]
def ref_Make_L1_H : List HD := []
abbrev ref_Make_L1_D : Type := (List Int) × Int × Int
def ref_Make_L1_to (a : DenS ref_Make_L1_A) (m : DenH ref_Make_L1_H) : ref_Make_L1_D := (a.1, a.2.2.2.1, a.2.2.2.2.1)
def ref_Make_L1_ofA (d : ref_Make_L1_D) : DenS ref_Make_L1_A := match d with | (s0, s3, s4) => (s0, (), (), s3, s4, (), (), (), (), (), (), (), (), (), (), (), (), (), (), (), (), (), (), (), ())
def ref_Make_L1_ofH (d : ref_Make_L1_D) : DenH ref_Make_L1_H := match d with | (s0, s3, s4) => ()
def ref_Make_L1_N : Norm := (⟨[0, 3, 4], [], []⟩ : Go.TX.Norm)
def ref_Make_L1_X : Exit → Norm := fun e => match e with | .exit 0 => ⟨[3], [], []⟩ | _ => ⟨[], [], []⟩
abbrev ref_Make_L1_R : Type := (Int)
def ref_Make_L1_fin (v : ref_Make_L1_R) : Exit × St := ((.exit 0), ⟨[.any, .any, .any, .lit (.int .u64 v), .any, .any, .any, .any, .any, .any, .any, .any, .any, .any, .any, .any, .any, .any, .any, .any, .any, .any, .any, .any], []⟩)
noncomputable def ref_Make_L1_t {γ : Type} (s0 : (List Int)) (s3 : Int) (s4 : Int) (next : ref_Make_L1_D → Option γ) (out : ref_Make_L1_R → Option γ) : Option γ := cond (decide (s4 ≥ (0 : Int))) (cond (decide ((0 : Int) ≤ s4 ∧ s4 < (↑(List.length s0) : Int))) (next (s0, IntKind.wrap IntKind.u64 (IntKind.wrap IntKind.u64 (s3 * (2 : Int)) + IntKind.wrap IntKind.u64 (ibits BinOp.and IntKind.i64 (List.getD s0 (Int.toNat s4) (0 : Int)) (1 : Int))), IntKind.wrap IntKind.i64 (s4 - (1 : Int)))) (none)) (out (s3))
noncomputable def ref_Make_L1_pass (d : ref_Make_L1_D) : Option (ref_Make_L1_D ⊕ ref_Make_L1_R) := ref_Make_L1_t d.1 d.2.1 d.2.2 (fun d => some (.inl d)) (fun x => some (.inr x))
theorem ref_Make_L1_t_eq {γ : Type} (s0 : (List Int)) (s3 : Int) (s4 : Int) (next : ref_Make_L1_D → Option γ) (out : ref_Make_L1_R → Option γ) : ref_Make_L1_t s0 s3 s4 next out = PassOf (ref_Make_L1_t s0 s3 s4 (fun d => some (.inl d)) (fun x => some (.inr x))) next out := by
  delta ref_Make_L1_t; exact (Ps.nd (Ps.nd Ps.nx Ps.no) Ps.ou)
theorem ref_Make_L1_ev (α : Type) (d : ref_Make_L1_D) (next : ref_Make_L1_D → Option α) (k : Exit → St → Option α) : ev Tryz.prog O5 ref_Make_h0 60 [0, 0, 1, 0, 1, 1] ((codeAt (bodyOf Tryz.f134) [0, 0, 1, 0, 1, 1]).getD .skip) ⟨mkS ref_Make_L1_A (ref_Make_L1_ofA d), mkH ref_Make_L1_H (ref_Make_L1_ofH d)⟩ (passK 0 ref_Make_L1_N ref_Make_L1_A ref_Make_L1_H ref_Make_L1_X (fun a m => next (ref_Make_L1_to a m)) k) = PassOf (ref_Make_L1_pass d) next fun x => k (ref_Make_L1_fin x).1 (ref_Make_L1_fin x).2 := by
  obtain ⟨s0, s3, s4⟩ := d
  exact (show _ = ref_Make_L1_t s0 s3 s4 next (fun x => k (ref_Make_L1_fin x).1 (ref_Make_L1_fin x).2) from by kernel_rfl).trans (ref_Make_L1_t_eq s0 s3 s4 _ _)
noncomputable def ref_Make_L1 (d : ref_Make_L1_D) : Option ref_Make_L1_R := runs ref_Make_L1_pass d
noncomputable def ref_Make_L1_sp : CSpec := fun _ st k => reNorm 0 ref_Make_L1_N ref_Make_L1_A ref_Make_L1_H st fun a m => outOf (ref_Make_L1 (ref_Make_L1_to a m)) fun v => k (.exit 0) ⟨[.any, .any, .any, .lit (.int .u64 v), .any, .any, .any, .any, .any, .any, .any, .any, .any, .any, .any, .any, .any, .any, .any, .any, .any, .any, .any, .any], []⟩
theorem ref_Make_L1_ok : SumOK Tryz.prog 0 (.loop ((codeAt (bodyOf Tryz.f134) [0, 0, 1, 0, 1, 1]).getD .skip)) ref_Make_L1_sp := (SumOK.loop O5_ok mixed ref_Make_h0_ok (show codeAt (bodyOf Tryz.f134) [0, 1, 0, 1, 1] = some (.loop ((codeAt (bodyOf Tryz.f134) [0, 0, 1, 0, 1, 1]).getD .skip)) from by kernel_rfl) (N := ref_Make_L1_N) (Nx := ref_Make_L1_X) (A := ref_Make_L1_A) (Hs := ref_Make_L1_H) (toD := ref_Make_L1_to) (ofA := ref_Make_L1_ofA) (ofH := ref_Make_L1_ofH) (fun _ _ => rfl) (fun _ _ => rfl) (pass := ref_Make_L1_pass) (fin := ref_Make_L1_fin) 60 ref_Make_L1_ev (steps ref_Make_L1_pass)).mono fun α st k r h => by
  refine Eq.trans (congrArg (reNorm 0 ref_Make_L1_N ref_Make_L1_A ref_Make_L1_H st) ?_) h
  funext a m
  exact outOf_congr fun x => rfl
noncomputable def ref_Make_L1_h : Hints := ref_Make_h0.add [0, 1, 0, 1, 1] ref_Make_L1_sp
theorem ref_Make_L1_h_ok : ref_Make_L1_h.OK Tryz.prog (bodyOf Tryz.f134) := ref_Make_h0_ok.add (show codeAt (bodyOf Tryz.f134) [0, 1, 0, 1, 1] = some (.loop ((codeAt (bodyOf Tryz.f134) [0, 0, 1, 0, 1, 1]).getD .skip)) from by kernel_rfl) ref_Make_L1_ok
abbrev ref_Make_R : Type := (Int)
noncomputable def ref_Make_t {γ : Type} (a0 : (List Int)) (k : ref_Make_R → Option γ) : Option γ := outOf (ref_Make_L1 (a0, (0 : Int), IntKind.wrap IntKind.i64 ((if (64 : Int) < (↑(List.length a0) : Int) then (64 : Int) else (↑(List.length a0) : Int)) - (1 : Int)))) fun (x1 : Int) => k (IntKind.wrap IntKind.i64 x1)
noncomputable def ref_Make (a0 : (List Int)) : Option ref_Make_R := ref_Make_t a0 some
theorem ref_Make_t_eq {γ : Type} (a0 : (List Int)) (k : ref_Make_R → Option γ) : ref_Make_t a0 k = outOf (ref_Make a0) k := by
  delta ref_Make ref_Make_t; exact (Tr.bd fun x1 => Tr.lf)
noncomputable def ref_Make_sp : TX.Spec := specD [.val (.sl (.int .i64))] [] fun _ a m k => match a, m with | ⟨a0, _⟩, _ => outOf (ref_Make a0) fun v => k (.lit (.int .i64 v)) []
theorem ref_Make_ev {α : Type} (a0 : (List Int)) (k : Kont α) : evFun Tryz.prog O5 (ref_Make_L1_h) false Tryz.f134 (bodyOf Tryz.f134) 60 (mkS [.val (.sl (.int .i64))] (a0, ())) (mkH [] ()) k = outOf (ref_Make a0) fun v => k (.lit (.int .i64 v)) [] :=
  (show _ = ref_Make_t a0 (fun v => k (.lit (.int .i64 v)) []) from by kernel_rfl).trans (ref_Make_t_eq a0 _)
theorem ref_Make_good : TX.Good Tryz.prog 134 ref_Make_sp := good_form O5_ok mixed Tryz.func134 (body_of rfl) (by kernel_rfl) false fun α a m k r h => by
  obtain ⟨a0, _⟩ := a; obtain _ := m
  exact ⟨ref_Make_L1_h, 60, ref_Make_L1_h_ok, rfl, (ref_Make_ev a0 k).trans h⟩
def ref_Of_h0 : Hints := Hints.nil 0
theorem ref_Of_h0_ok : ref_Of_h0.OK Tryz.prog (bodyOf Tryz.f111) := Hints.nil_ok
abbrev ref_Of_R : Type := (Int × Int)
noncomputable def ref_Of_t {γ : Type} (a0 : Int) (k : ref_Of_R → Option γ) : Option γ := cond (decide (a0 < (0 : Int))) (k (a0, (-1 : Int))) (k (a0, (0 : Int)))
noncomputable def ref_Of (a0 : Int) : Option ref_Of_R := ref_Of_t a0 some
theorem ref_Of_t_eq {γ : Type} (a0 : Int) (k : ref_Of_R → Option γ) : ref_Of_t a0 k = outOf (ref_Of a0) k := by
  delta ref_Of ref_Of_t; exact (Tr.nd Tr.lf Tr.lf)
noncomputable def ref_Of_sp : TX.Spec := specD [.val (.int .i64)] [] fun _ a m k => match a, m with | ⟨a0, _⟩, _ => outOf (ref_Of a0) fun v => k (.agg [.lit (.int .i64 v.1), .lit (.int .i64 v.2)]) []
theorem ref_Of_ev {α : Type} (a0 : Int) (k : Kont α) : evFun Tryz.prog O5 (ref_Of_h0) false Tryz.f111 (bodyOf Tryz.f111) 60 (mkS [.val (.int .i64)] (a0, ())) (mkH [] ()) k = outOf (ref_Of a0) fun v => k (.agg [.lit (.int .i64 v.1), .lit (.int .i64 v.2)]) [] :=
  (show _ = ref_Of_t a0 (fun v => k (.agg [.lit (.int .i64 v.1), .lit (.int .i64 v.2)]) []) from by kernel_rfl).trans (ref_Of_t_eq a0 _)
theorem ref_Of_good : TX.Good Tryz.prog 111 ref_Of_sp := good_form O5_ok mixed Tryz.func111 (body_of rfl) (by kernel_rfl) false fun α a m k r h => by
  obtain ⟨a0, _⟩ := a; obtain _ := m
  exact ⟨ref_Of_h0, 60, ref_Of_h0_ok, rfl, (ref_Of_ev a0 k).trans h⟩
def r1_Flag_h0 : Hints := Hints.nil 0
theorem r1_Flag_h0_ok : r1_Flag_h0.OK Tryz.prog (bodyOf Tryz.f99) := Hints.nil_ok
abbrev r1_Flag_R : Type := (Int)
noncomputable def r1_Flag_t {γ : Type} (a0 : Bool) (k : r1_Flag_R → Option γ) : Option γ := cond a0 (k ((-1 : Int))) (k ((0 : Int)))
noncomputable def r1_Flag (a0 : Bool) : Option r1_Flag_R := r1_Flag_t a0 some
theorem r1_Flag_t_eq {γ : Type} (a0 : Bool) (k : r1_Flag_R → Option γ) : r1_Flag_t a0 k = outOf (r1_Flag a0) k := by
  delta r1_Flag r1_Flag_t; exact (Tr.nd Tr.lf Tr.lf)
noncomputable def r1_Flag_sp : TX.Spec := specD [.val .bool] [] fun _ a m k => match a, m with | ⟨a0, _⟩, _ => outOf (r1_Flag a0) fun v => k (.lit (.int .i64 v)) []
theorem r1_Flag_ev {α : Type} (a0 : Bool) (k : Kont α) : evFun Tryz.prog O5 (r1_Flag_h0) false Tryz.f99 (bodyOf Tryz.f99) 60 (mkS [.val .bool] (a0, ())) (mkH [] ()) k = outOf (r1_Flag a0) fun v => k (.lit (.int .i64 v)) [] :=
  (show _ = r1_Flag_t a0 (fun v => k (.lit (.int .i64 v)) []) from by kernel_rfl).trans (r1_Flag_t_eq a0 _)
theorem r1_Flag_good : TX.Good Tryz.prog 99 r1_Flag_sp := good_form O5_ok mixed Tryz.func99 (body_of rfl) (by kernel_rfl) false fun α a m k r h => by
  obtain ⟨a0, _⟩ := a; obtain _ := m
  exact ⟨r1_Flag_h0, 60, r1_Flag_h0_ok, rfl, (r1_Flag_ev a0 k).trans h⟩
def r1_wrong_h0 : Hints := Hints.nil 0
theorem r1_wrong_h0_ok : r1_wrong_h0.OK Tryz.prog (bodyOf Tryz.f141) := Hints.nil_ok
abbrev r1_wrong_R : Type := (Int)
noncomputable def r1_wrong_t {γ : Type} (a0 : Int) (a1 : Int) (k : r1_wrong_R → Option γ) : Option γ := cond (a1 == (0 : Int)) (k ((-10 : Int))) (cond (a1 == (-1 : Int)) (cond (a0 == (-9223372036854775808 : Int)) (k ((-11 : Int))) (k ((0 : Int)))) (k ((0 : Int))))
noncomputable def r1_wrong (a0 : Int) (a1 : Int) : Option r1_wrong_R := r1_wrong_t a0 a1 some
theorem r1_wrong_t_eq {γ : Type} (a0 : Int) (a1 : Int) (k : r1_wrong_R → Option γ) : r1_wrong_t a0 a1 k = outOf (r1_wrong a0 a1) k := by
  delta r1_wrong r1_wrong_t; exact (Tr.nd Tr.lf (Tr.nd (Tr.nd Tr.lf Tr.lf) Tr.lf))
noncomputable def r1_wrong_sp : TX.Spec := specD [.val (.int .i64), .val (.int .i64)] [] fun _ a m k => match a, m with | ⟨a0, a1, _⟩, _ => outOf (r1_wrong a0 a1) fun v => k (.lit (.int .i64 v)) []
theorem r1_wrong_ev {α : Type} (a0 : Int) (a1 : Int) (k : Kont α) : evFun Tryz.prog O5 (r1_wrong_h0) false Tryz.f141 (bodyOf Tryz.f141) 60 (mkS [.val (.int .i64), .val (.int .i64)] (a0, a1, ())) (mkH [] ()) k = outOf (r1_wrong a0 a1) fun v => k (.lit (.int .i64 v)) [] :=
  (show _ = r1_wrong_t a0 a1 (fun v => k (.lit (.int .i64 v)) []) from by kernel_rfl).trans (r1_wrong_t_eq a0 a1 _)
theorem r1_wrong_good : TX.Good Tryz.prog 141 r1_wrong_sp := good_form O5_ok mixed Tryz.func141 (body_of rfl) (by kernel_rfl) false fun α a m k r h => by
  obtain ⟨a0, a1, _⟩ := a; obtain _ := m
  exact ⟨r1_wrong_h0, 60, r1_wrong_h0_ok, rfl, (r1_wrong_ev a0 a1 k).trans h⟩
def r4_Push_h0 : Hints := Hints.nil 0
theorem r4_Push_h0_ok : r4_Push_h0.OK Tryz.prog (bodyOf Tryz.f31) := Hints.nil_ok
abbrev r4_Push_R : Type := ((List Int) × Int)
noncomputable def r4_Push_t {γ : Type} (a0 : (List Int)) (a1 : Int) (a2 : (List Int)) (k : r4_Push_R → Option γ) : Option γ := cond (decide (IntKind.wrap IntKind.i64 ((↑(List.length a0) : Int) + (↑(List.length a2) : Int)) > a1)) (k (a0, (-3 : Int))) (cond (decide (List.length a0 ≤ (2147483648 : Nat))) (cond (decide (List.length a0 + List.length a2 ≤ (2147483648 : Nat))) (k (List.take (List.length a0 + List.length a2) (List.drop (0 : Nat) (List.take (List.length a0) (List.drop (0 : Nat) a0) ++ a2)), (0 : Int))) (none)) (none))
noncomputable def r4_Push (a0 : (List Int)) (a1 : Int) (a2 : (List Int)) : Option r4_Push_R := r4_Push_t a0 a1 a2 some
theorem r4_Push_t_eq {γ : Type} (a0 : (List Int)) (a1 : Int) (a2 : (List Int)) (k : r4_Push_R → Option γ) : r4_Push_t a0 a1 a2 k = outOf (r4_Push a0 a1 a2) k := by
  delta r4_Push r4_Push_t; exact (Tr.nd Tr.lf (Tr.nd (Tr.nd Tr.lf Tr.no) Tr.no))
noncomputable def r4_Push_sp : TX.Spec := specD [.val (.sl (.int .i64)), .val (.int .i64), .val (.sl (.int .i64))] [] fun _ a m k => match a, m with | ⟨a0, a1, a2, _⟩, _ => outOf (r4_Push a0 a1 a2) fun v => k (.tup [.sl (.int .i64) v.1 false, .lit (.int .i64 v.2)]) []
theorem r4_Push_ev {α : Type} (a0 : (List Int)) (a1 : Int) (a2 : (List Int)) (k : Kont α) : evFun Tryz.prog O5 (r4_Push_h0) false Tryz.f31 (bodyOf Tryz.f31) 60 (mkS [.val (.sl (.int .i64)), .val (.int .i64), .val (.sl (.int .i64))] (a0, a1, a2, ())) (mkH [] ()) k = outOf (r4_Push a0 a1 a2) fun v => k (.tup [.sl (.int .i64) v.1 false, .lit (.int .i64 v.2)]) [] :=
  (show _ = r4_Push_t a0 a1 a2 (fun v => k (.tup [.sl (.int .i64) v.1 false, .lit (.int .i64 v.2)]) []) from by kernel_rfl).trans (r4_Push_t_eq a0 a1 a2 _)
theorem r4_Push_good : TX.Good Tryz.prog 31 r4_Push_sp := good_form O5_ok mixed Tryz.func31 (body_of rfl) (by kernel_rfl) false fun α a m k r h => by
  obtain ⟨a0, a1, a2, _⟩ := a; obtain _ := m
  exact ⟨r4_Push_h0, 60, r4_Push_h0_ok, rfl, (r4_Push_ev a0 a1 a2 k).trans h⟩
def r4_Pick_h0 : Hints := Hints.nil 0
theorem r4_Pick_h0_ok : r4_Pick_h0.OK Tryz.prog (bodyOf Tryz.f32) := Hints.nil_ok
abbrev r4_Pick_R : Type := (Int × Int)
noncomputable def r4_Pick_t {γ : Type} (a0 : (List Int)) (a1 : Int) (k : r4_Pick_R → Option γ) : Option γ := cond (decide (a1 < (0 : Int))) (k ((0 : Int), (-4 : Int))) (cond (decide (a1 ≥ (↑(List.length a0) : Int))) (k ((0 : Int), (-4 : Int))) (cond (decide ((0 : Int) ≤ IntKind.wrap IntKind.i64 (IntKind.wrap IntKind.i64 ((↑(List.length a0) : Int) - (1 : Int)) - a1) ∧ IntKind.wrap IntKind.i64 (IntKind.wrap IntKind.i64 ((↑(List.length a0) : Int) - (1 : Int)) - a1) < (↑(List.length a0) : Int))) (k (List.getD a0 (Int.toNat (IntKind.wrap IntKind.i64 (IntKind.wrap IntKind.i64 ((↑(List.length a0) : Int) - (1 : Int)) - a1))) (0 : Int), (0 : Int))) (none)))
noncomputable def r4_Pick (a0 : (List Int)) (a1 : Int) : Option r4_Pick_R := r4_Pick_t a0 a1 some
theorem r4_Pick_t_eq {γ : Type} (a0 : (List Int)) (a1 : Int) (k : r4_Pick_R → Option γ) : r4_Pick_t a0 a1 k = outOf (r4_Pick a0 a1) k := by
  delta r4_Pick r4_Pick_t; exact (Tr.nd Tr.lf (Tr.nd Tr.lf (Tr.nd Tr.lf Tr.no)))
noncomputable def r4_Pick_sp : TX.Spec := specD [.val (.sl (.int .i64)), .val (.int .i64)] [] fun _ a m k => match a, m with | ⟨a0, a1, _⟩, _ => outOf (r4_Pick a0 a1) fun v => k (.tup [.lit (.int .i64 v.1), .lit (.int .i64 v.2)]) []
theorem r4_Pick_ev {α : Type} (a0 : (List Int)) (a1 : Int) (k : Kont α) : evFun Tryz.prog O5 (r4_Pick_h0) false Tryz.f32 (bodyOf Tryz.f32) 60 (mkS [.val (.sl (.int .i64)), .val (.int .i64)] (a0, a1, ())) (mkH [] ()) k = outOf (r4_Pick a0 a1) fun v => k (.tup [.lit (.int .i64 v.1), .lit (.int .i64 v.2)]) [] :=
  (show _ = r4_Pick_t a0 a1 (fun v => k (.tup [.lit (.int .i64 v.1), .lit (.int .i64 v.2)]) []) from by kernel_rfl).trans (r4_Pick_t_eq a0 a1 _)
theorem r4_Pick_good : TX.Good Tryz.prog 32 r4_Pick_sp := good_form O5_ok mixed Tryz.func32 (body_of rfl) (by kernel_rfl) false fun α a m k r h => by
  obtain ⟨a0, a1, _⟩ := a; obtain _ := m
  exact ⟨r4_Pick_h0, 60, r4_Pick_h0_ok, rfl, (r4_Pick_ev a0 a1 k).trans h⟩
def r7_in_h0 : Hints := Hints.nil 0
theorem r7_in_h0_ok : r7_in_h0.OK Tryz.prog (bodyOf Tryz.f28) := Hints.nil_ok
abbrev r7_in_R : Type := (Bool)
noncomputable def r7_in_t {γ : Type} (a0 : Int) (k : r7_in_R → Option γ) : Option γ := cond (decide (a0 ≥ (0 : Int))) (k (decide (a0 < (111 : Int)))) (k (false))
noncomputable def r7_in (a0 : Int) : Option r7_in_R := r7_in_t a0 some
theorem r7_in_t_eq {γ : Type} (a0 : Int) (k : r7_in_R → Option γ) : r7_in_t a0 k = outOf (r7_in a0) k := by
  delta r7_in r7_in_t; exact (Tr.nd Tr.lf Tr.lf)
noncomputable def r7_in_sp : TX.Spec := specD [.val (.int .i64)] [] fun _ a m k => match a, m with | ⟨a0, _⟩, _ => outOf (r7_in a0) fun v => k (.lit (.bool v)) []
theorem r7_in_ev {α : Type} (a0 : Int) (k : Kont α) : evFun Tryz.prog O5 (r7_in_h0) false Tryz.f28 (bodyOf Tryz.f28) 60 (mkS [.val (.int .i64)] (a0, ())) (mkH [] ()) k = outOf (r7_in a0) fun v => k (.lit (.bool v)) [] :=
  (show _ = r7_in_t a0 (fun v => k (.lit (.bool v)) []) from by kernel_rfl).trans (r7_in_t_eq a0 _)
theorem r7_in_good : TX.Good Tryz.prog 28 r7_in_sp := good_form O5_ok mixed Tryz.func28 (body_of rfl) (by kernel_rfl) false fun α a m k r h => by
  obtain ⟨a0, _⟩ := a; obtain _ := m
  exact ⟨r7_in_h0, 60, r7_in_h0_ok, rfl, (r7_in_ev a0 k).trans h⟩
def r7_needs_h0 : Hints := Hints.nil 0
theorem r7_needs_h0_ok : r7_needs_h0.OK Tryz.prog (bodyOf Tryz.f30) := Hints.nil_ok
noncomputable def r7_needs : ByteArray := (bytesOf [48, 48, 49, 48, 48, 50, 50, 48, 49, 48, 48, 48, 49, 48, 48, 49, 49, 49, 49, 49, 50, 50, 51, 50, 50, 50, 50, 52, 52, 49, 49, 49, 48, 50, 50, 50, 50, 50, 50, 51, 51, 49, 49, 49, 49, 49, 49, 50, 50, 50, 50, 50, 49, 50, 50, 50, 50, 50, 50, 50, 49, 49, 51, 50, 50, 51, 51, 51, 49, 52, 50, 49, 49, 49, 49, 49, 50, 49, 50, 50, 51, 51, 51, 49, 50, 49, 49, 48, 48, 48, 50, 50, 49, 49, 50, 48, 48, 48, 48, 48, 48, 49, 48, 51, 48, 48, 48, 49, 49, 49, 48])
noncomputable def r7_needs_sp : TX.Spec := specD [] [] fun _ a m k => match a, m with | _, _ => k (.lit (.string r7_needs)) []
theorem r7_needs_ev {α : Type} (k : Kont α) : evFun Tryz.prog O5 (r7_needs_h0) false Tryz.f30 (bodyOf Tryz.f30) 60 (mkS [] ()) (mkH [] ()) k = k (.lit (.string r7_needs)) [] :=
  by kernel_rfl
theorem r7_needs_good : TX.Good Tryz.prog 30 r7_needs_sp := good_form O5_ok mixed Tryz.func30 (body_of rfl) (by kernel_rfl) false fun α a m k r h => by
  obtain _ := a; obtain _ := m
  exact ⟨r7_needs_h0, 60, r7_needs_h0_ok, rfl, (r7_needs_ev  k).trans h⟩
def r7_leaves_h0 : Hints := Hints.nil 0
theorem r7_leaves_h0_ok : r7_leaves_h0.OK Tryz.prog (bodyOf Tryz.f38) := Hints.nil_ok
noncomputable def r7_leaves : ByteArray := (bytesOf [49, 48, 48, 63, 48, 48, 48, 48, 48, 48, 49, 49, 48, 49, 49, 63, 63, 63, 50, 48, 50, 51, 51, 49, 51, 52, 48, 52, 54, 63, 49, 48, 49, 49, 49, 49, 49, 49, 50, 49, 50, 49, 49, 49, 49, 49, 49, 49, 49, 49, 49, 49, 49, 49, 49, 49, 49, 49, 49, 49, 49, 49, 49, 50, 50, 50, 50, 50, 50, 50, 50, 49, 49, 49, 49, 49, 48, 49, 48, 48, 48, 48, 49, 48, 48, 48, 48, 48, 48, 48, 50, 50, 48, 48, 50, 49, 48, 48, 49, 49, 48, 48, 48, 48, 48, 48, 49, 48, 48, 48, 48])
noncomputable def r7_leaves_sp : TX.Spec := specD [] [] fun _ a m k => match a, m with | _, _ => k (.lit (.string r7_leaves)) []
theorem r7_leaves_ev {α : Type} (k : Kont α) : evFun Tryz.prog O5 (r7_leaves_h0) false Tryz.f38 (bodyOf Tryz.f38) 60 (mkS [] ()) (mkH [] ()) k = k (.lit (.string r7_leaves)) [] :=
  by kernel_rfl
theorem r7_leaves_good : TX.Good Tryz.prog 38 r7_leaves_sp := good_form O5_ok mixed Tryz.func38 (body_of rfl) (by kernel_rfl) false fun α a m k r h => by
  obtain _ := a; obtain _ := m
  exact ⟨r7_leaves_h0, 60, r7_leaves_h0_ok, rfl, (r7_leaves_ev  k).trans h⟩
def r7_groups_h0 : Hints := Hints.nil 0
theorem r7_groups_h0_ok : r7_groups_h0.OK Tryz.prog (bodyOf Tryz.f29) := Hints.nil_ok
noncomputable def r7_groups : ByteArray := (bytesOf [48, 48, 48, 48, 48, 48, 48, 48, 48, 48, 48, 48, 48, 48, 48, 48, 48, 48, 49, 49, 49, 49, 49, 49, 49, 49, 49, 49, 49, 49, 49, 49, 49, 49, 49, 49, 49, 49, 49, 49, 49, 49, 49, 49, 49, 49, 49, 49, 49, 49, 49, 49, 49, 49, 49, 49, 49, 49, 49, 49, 49, 49, 49, 49, 49, 49, 49, 49, 49, 49, 49, 49, 49, 49, 49, 50, 50, 50, 50, 50, 50, 50, 50, 51, 51, 51, 51, 51, 51, 52, 52, 52, 52, 52, 52, 53, 53, 53, 54, 54, 54, 54, 54, 54, 55, 55, 55, 55, 55, 55, 55])
noncomputable def r7_groups_sp : TX.Spec := specD [] [] fun _ a m k => match a, m with | _, _ => k (.lit (.string r7_groups)) []
theorem r7_groups_ev {α : Type} (k : Kont α) : evFun Tryz.prog O5 (r7_groups_h0) false Tryz.f29 (bodyOf Tryz.f29) 60 (mkS [] ()) (mkH [] ()) k = k (.lit (.string r7_groups)) [] :=
  by kernel_rfl
theorem r7_groups_good : TX.Good Tryz.prog 29 r7_groups_sp := good_form O5_ok mixed Tryz.func29 (body_of rfl) (by kernel_rfl) false fun α a m k r h => by
  obtain _ := a; obtain _ := m
  exact ⟨r7_groups_h0, 60, r7_groups_h0_ok, rfl, (r7_groups_ev  k).trans h⟩
def r9_order_h0 : Hints := Hints.nil 0
theorem r9_order_h0_ok : r9_order_h0.OK Tryz.prog (bodyOf Tryz.f34) := Hints.nil_ok
def r9_order_M1_A : List SD := [.any, .any, .any, .val (.int .i64), .any, .any, .any, .any, .any, .any, .any, .any, .any, .any, .any, .any, .any, .any, .any, .any, .any, .any, .any, .any, .any]
def r9_order_M1_H : List HD := []
abbrev r9_order_M1_D : Type := Int
def r9_order_M1_to (a : DenS r9_order_M1_A) (m : DenH r9_order_M1_H) : r9_order_M1_D := (a.2.2.2.1)
def r9_order_M1_ofA (d : r9_order_M1_D) : DenS r9_order_M1_A := match d with | (s3) => ((), (), (), s3, (), (), (), (), (), (), (), (), (), (), (), (), (), (), (), (), (), (), (), (), (), ())
def r9_order_M1_ofH (d : r9_order_M1_D) : DenH r9_order_M1_H := match d with | (s3) => ()
def r9_order_M1_N : Norm := (⟨[3], [], []⟩ : Go.TX.Norm)
def r9_order_M1_X : Exit → Norm := fun e => match e with | .normal => ⟨[3, 6], [], []⟩ | _ => ⟨[], [], []⟩
abbrev r9_order_M1_R : Type := (Bool)
def r9_order_M1_fin (d : r9_order_M1_D) (v : r9_order_M1_R) : Exit × St := (.normal, ⟨[.any, .any, .any, .lit (.int .i64 d), .any, .any, .lit (.bool v), .any, .any, .any, .any, .any, .any, .any, .any, .any, .any, .any, .any, .any, .any, .any, .any, .any, .any], []⟩)
noncomputable def r9_order_M1_t {γ : Type} (s3 : Int) (k : r9_order_M1_R → Option γ) : Option γ := cond (s3 == (19 : Int)) (k (s3 == (19 : Int))) (k (s3 == (26 : Int)))
noncomputable def r9_order_M1 (s3 : Int) : Option r9_order_M1_R := r9_order_M1_t s3 some
theorem r9_order_M1_t_eq {γ : Type} (s3 : Int) (k : r9_order_M1_R → Option γ) : r9_order_M1_t s3 k = outOf (r9_order_M1 s3) k := by
  delta r9_order_M1 r9_order_M1_t; exact (Tr.nd Tr.lf Tr.lf)
theorem r9_order_M1_ev (α : Type) (d : r9_order_M1_D) (k : Exit → St → Option α) : ev Tryz.prog O5 r9_order_h0 60 [0, 1, 1, 0, 1, 0, 1] ((codeAt (bodyOf Tryz.f34) [0, 1, 1, 0, 1, 0, 1]).getD .skip) ⟨mkS r9_order_M1_A (r9_order_M1_ofA d), mkH r9_order_M1_H (r9_order_M1_ofH d)⟩ (exitN 0 r9_order_M1_X k) = outOf (r9_order_M1 d) fun x => k (r9_order_M1_fin d x).1 (r9_order_M1_fin d x).2 := by
  revert d; intro s3
  exact (show _ = r9_order_M1_t s3 (fun x => k (r9_order_M1_fin (s3) x).1 (r9_order_M1_fin (s3) x).2) from by kernel_rfl).trans (r9_order_M1_t_eq s3 _)
noncomputable def r9_order_M1_sp : CSpec := fun _ st k => reNorm 0 r9_order_M1_N r9_order_M1_A r9_order_M1_H st fun a m => outOf (r9_order_M1 (r9_order_M1_to a m)) fun v => k .normal ⟨[.any, .any, .any, .lit (.int .i64 (r9_order_M1_to a m)), .any, .any, .lit (.bool v), .any, .any, .any, .any, .any, .any, .any, .any, .any, .any, .any, .any, .any, .any, .any, .any, .any, .any], []⟩
theorem r9_order_M1_ok : SumOK Tryz.prog 0 ((codeAt (bodyOf Tryz.f34) [0, 1, 1, 0, 1, 0, 1]).getD .skip) r9_order_M1_sp := (SumOK.once O5_ok mixed r9_order_h0_ok (show codeAt (bodyOf Tryz.f34) [0, 1, 1, 0, 1, 0, 1] = some ((codeAt (bodyOf Tryz.f34) [0, 1, 1, 0, 1, 0, 1]).getD .skip) from by kernel_rfl) (N := r9_order_M1_N) (Nx := r9_order_M1_X) (A := r9_order_M1_A) (Hs := r9_order_M1_H) (toD := r9_order_M1_to) (ofA := r9_order_M1_ofA) (ofH := r9_order_M1_ofH) (fun _ _ => rfl) (fun _ _ => rfl) (M := fun d => r9_order_M1 d) (fin := r9_order_M1_fin) 60 r9_order_M1_ev).mono fun α st k r h => by
  refine Eq.trans (congrArg (reNorm 0 r9_order_M1_N r9_order_M1_A r9_order_M1_H st) ?_) h
  funext a m
  exact outOf_congr fun x => rfl
noncomputable def r9_order_M1_h : Hints := r9_order_h0.add [0, 1, 1, 0, 1, 0, 1] r9_order_M1_sp
theorem r9_order_M1_h_ok : r9_order_M1_h.OK Tryz.prog (bodyOf Tryz.f34) := r9_order_h0_ok.add (show codeAt (bodyOf Tryz.f34) [0, 1, 1, 0, 1, 0, 1] = some ((codeAt (bodyOf Tryz.f34) [0, 1, 1, 0, 1, 0, 1]).getD .skip) from by kernel_rfl) r9_order_M1_ok
abbrev r9_order_R : Type := (ByteArray)
noncomputable def r9_order_t {γ : Type} (a0 : Int) (k : r9_order_R → Option γ) : Option γ := cond (a0 == (18 : Int)) (k (bytesOf [48, 48])) (outOf (r9_order_M1 a0) fun (x1 : Bool) => cond x1 (k (bytesOf [45])) (cond (a0 == (20 : Int)) (k (bytesOf [49, 48])) (cond (a0 == (21 : Int)) (k (bytesOf [48, 49, 48])) (cond (a0 == (22 : Int)) (k (bytesOf [49, 50, 48])) (cond (a0 == (23 : Int)) (k (bytesOf [49])) (cond (a0 == (24 : Int)) (k (bytesOf [49, 48, 49])) (cond (a0 == (25 : Int)) (k (bytesOf [48, 49, 48, 49])) (cond (a0 == (27 : Int)) (k (bytesOf [50, 51, 48, 49])) (cond (a0 == (28 : Int)) (k (bytesOf [48, 49, 50, 51, 48, 49])) (k (bytesOf [])))))))))))
noncomputable def r9_order (a0 : Int) : Option r9_order_R := r9_order_t a0 some
theorem r9_order_t_eq {γ : Type} (a0 : Int) (k : r9_order_R → Option γ) : r9_order_t a0 k = outOf (r9_order a0) k := by
  delta r9_order r9_order_t; exact (Tr.nd Tr.lf (Tr.bd fun x1 => (Tr.nd Tr.lf (Tr.nd Tr.lf (Tr.nd Tr.lf (Tr.nd Tr.lf (Tr.nd Tr.lf (Tr.nd Tr.lf (Tr.nd Tr.lf (Tr.nd Tr.lf (Tr.nd Tr.lf Tr.lf)))))))))))
noncomputable def r9_order_sp : TX.Spec := specD [.val (.int .i64)] [] fun _ a m k => match a, m with | ⟨a0, _⟩, _ => outOf (r9_order a0) fun v => k (.lit (.string v)) []
theorem r9_order_ev {α : Type} (a0 : Int) (k : Kont α) : evFun Tryz.prog O5 (r9_order_M1_h) false Tryz.f34 (bodyOf Tryz.f34) 60 (mkS [.val (.int .i64)] (a0, ())) (mkH [] ()) k = outOf (r9_order a0) fun v => k (.lit (.string v)) [] :=
  (show _ = r9_order_t a0 (fun v => k (.lit (.string v)) []) from by kernel_rfl).trans (r9_order_t_eq a0 _)
theorem r9_order_good : TX.Good Tryz.prog 34 r9_order_sp := good_form O5_ok mixed Tryz.func34 (body_of rfl) (by kernel_rfl) false fun α a m k r h => by
  obtain ⟨a0, _⟩ := a; obtain _ := m
  exact ⟨r9_order_M1_h, 60, r9_order_M1_h_ok, rfl, (r9_order_ev a0 k).trans h⟩
noncomputable def PzRE1 : Env := O5.add 133 true ref_Bit_sp |>.add 134 true ref_Make_sp |>.add 111 true ref_Of_sp |>.add 99 true r1_Flag_sp |>.add 141 true r1_wrong_sp |>.add 31 true r4_Push_sp |>.add 17 false (inl Tryz.prog O5 true Tryz.f17 60) |>.add 32 true r4_Pick_sp |>.add 28 true r7_in_sp |>.add 30 true r7_needs_sp |>.add 38 true r7_leaves_sp |>.add 29 true r7_groups_sp |>.add 34 true r9_order_sp
theorem PzRE1_ok : PzRE1.OK Tryz.prog := (((((((((((((O5_ok).add_ok ref_Bit_good).add_ok ref_Make_good).add_ok ref_Of_good).add_ok r1_Flag_good).add_ok r1_wrong_good).add_ok r4_Push_good).add_ok (inl_good O5_ok mixed Tryz.func17 (body_of rfl) (by kernel_rfl) true 60)).add_ok r4_Pick_good).add_ok r7_in_good).add_ok r7_needs_good).add_ok r7_leaves_good).add_ok r7_groups_good).add_ok r9_order_good
def ref_bits_h0 : Hints := Hints.nil 0
theorem ref_bits_h0_ok : ref_bits_h0.OK Tryz.prog (bodyOf Tryz.f137) := Hints.nil_ok
def ref_bits_L1_A : List SD := [.any, .loc 0 0 0, .any, .rowz 1, .val (.int .i64), .any, .any, .any, .any, .any, .any, .any, .any, .any, .any, .any, .any, .any, .any, .any, .any, .any, .any, .any, .any, .any, .any, .any, .any]
def ref_bits_L1_H : List HD := [.box [.val (.int .i64), .val (.int .i64)], .row (.int .i64)]
abbrev ref_bits_L1_D : Type := Nat × Int × Int × Int × (List Int)
def ref_bits_L1_to (a : DenS ref_bits_L1_A) (m : DenH ref_bits_L1_H) : ref_bits_L1_D := (a.2.2.2.1, a.2.2.2.2.1, m.1.1, m.1.2.1, m.2.1)
def ref_bits_L1_ofA (d : ref_bits_L1_D) : DenS ref_bits_L1_A := match d with | (s3_n, s4, m0_0, m0_1, m1) => ((), (), (), s3_n, s4, (), (), (), (), (), (), (), (), (), (), (), (), (), (), (), (), (), (), (), (), (), (), (), (), ())
def ref_bits_L1_ofH (d : ref_bits_L1_D) : DenH ref_bits_L1_H := match d with | (s3_n, s4, m0_0, m0_1, m1) => ((m0_0, m0_1, ()), m1, ())
def ref_bits_L1_N : Norm := (⟨[1, 3, 4], [3], []⟩ : Go.TX.Norm)
def ref_bits_L1_X : Exit → Norm := fun e => match e with | .exit 0 => ⟨[1, 3], [], []⟩ | _ => ⟨[], [], []⟩
abbrev ref_bits_L1_R : Type := (Nat × Int × Int × (List Int))
def ref_bits_L1_fin (v : ref_bits_L1_R) : Exit × St := ((.exit 0), ⟨[.any, .ptr 0 0 0, .any, .msl 1 0 v.1, .any, .any, .any, .any, .any, .any, .any, .any, .any, .any, .any, .any, .any, .any, .any, .any, .any, .any, .any, .any, .any, .any, .any, .any, .any], [.box [.lit (.int .i64 v.2.1), .lit (.int .i64 v.2.2.1)], .row (.int .i64) v.2.2.2]⟩)
noncomputable def ref_bits_L1_t {γ : Type} (s3_n : Nat) (s4 : Int) (m0_0 : Int) (m0_1 : Int) (m1 : (List Int)) (next : ref_bits_L1_D → Option γ) (out : ref_bits_L1_R → Option γ) : Option γ := cond (decide (s4 < (64 : Int))) (outOf (ref_Bit m0_0 s4) fun (x1 : Int) => cond (decide (s3_n + List.length [x1] ≤ (2147483648 : Nat))) (next (s3_n + List.length [x1], IntKind.wrap IntKind.i64 (s4 + (1 : Int)), m0_0, m0_1, List.take s3_n (List.drop (0 : Nat) m1) ++ [x1])) (none)) (out (s3_n, m0_0, m0_1, m1))
noncomputable def ref_bits_L1_pass (d : ref_bits_L1_D) : Option (ref_bits_L1_D ⊕ ref_bits_L1_R) := ref_bits_L1_t d.1 d.2.1 d.2.2.1 d.2.2.2.1 d.2.2.2.2 (fun d => some (.inl d)) (fun x => some (.inr x))
theorem ref_bits_L1_t_eq {γ : Type} (s3_n : Nat) (s4 : Int) (m0_0 : Int) (m0_1 : Int) (m1 : (List Int)) (next : ref_bits_L1_D → Option γ) (out : ref_bits_L1_R → Option γ) : ref_bits_L1_t s3_n s4 m0_0 m0_1 m1 next out = PassOf (ref_bits_L1_t s3_n s4 m0_0 m0_1 m1 (fun d => some (.inl d)) (fun x => some (.inr x))) next out := by
  delta ref_bits_L1_t; exact (Ps.nd (Ps.bd fun x1 => (Ps.nd Ps.nx Ps.no)) Ps.ou)
theorem ref_bits_L1_ev (α : Type) (d : ref_bits_L1_D) (next : ref_bits_L1_D → Option α) (k : Exit → St → Option α) : ev Tryz.prog PzRE1 ref_bits_h0 60 [0, 0, 1, 0, 1, 1] ((codeAt (bodyOf Tryz.f137) [0, 0, 1, 0, 1, 1]).getD .skip) ⟨mkS ref_bits_L1_A (ref_bits_L1_ofA d), mkH ref_bits_L1_H (ref_bits_L1_ofH d)⟩ (passK 0 ref_bits_L1_N ref_bits_L1_A ref_bits_L1_H ref_bits_L1_X (fun a m => next (ref_bits_L1_to a m)) k) = PassOf (ref_bits_L1_pass d) next fun x => k (ref_bits_L1_fin x).1 (ref_bits_L1_fin x).2 := by
  obtain ⟨s3_n, s4, m0_0, m0_1, m1⟩ := d
  exact (show _ = ref_bits_L1_t s3_n s4 m0_0 m0_1 m1 next (fun x => k (ref_bits_L1_fin x).1 (ref_bits_L1_fin x).2) from by kernel_rfl).trans (ref_bits_L1_t_eq s3_n s4 m0_0 m0_1 m1 _ _)
noncomputable def ref_bits_L1 (d : ref_bits_L1_D) : Option ref_bits_L1_R := runs ref_bits_L1_pass d
noncomputable def ref_bits_L1_sp : CSpec := fun _ st k => reNorm 0 ref_bits_L1_N ref_bits_L1_A ref_bits_L1_H st fun a m => outOf (ref_bits_L1 (ref_bits_L1_to a m)) fun v => k (.exit 0) ⟨[.any, .ptr 0 0 0, .any, .msl 1 0 v.1, .any, .any, .any, .any, .any, .any, .any, .any, .any, .any, .any, .any, .any, .any, .any, .any, .any, .any, .any, .any, .any, .any, .any, .any, .any], [.box [.lit (.int .i64 v.2.1), .lit (.int .i64 v.2.2.1)], .row (.int .i64) v.2.2.2]⟩
theorem ref_bits_L1_ok : SumOK Tryz.prog 0 (.loop ((codeAt (bodyOf Tryz.f137) [0, 0, 1, 0, 1, 1]).getD .skip)) ref_bits_L1_sp := (SumOK.loop PzRE1_ok mixed ref_bits_h0_ok (show codeAt (bodyOf Tryz.f137) [0, 1, 0, 1, 1] = some (.loop ((codeAt (bodyOf Tryz.f137) [0, 0, 1, 0, 1, 1]).getD .skip)) from by kernel_rfl) (N := ref_bits_L1_N) (Nx := ref_bits_L1_X) (A := ref_bits_L1_A) (Hs := ref_bits_L1_H) (toD := ref_bits_L1_to) (ofA := ref_bits_L1_ofA) (ofH := ref_bits_L1_ofH) (fun _ _ => rfl) (fun _ _ => rfl) (pass := ref_bits_L1_pass) (fin := ref_bits_L1_fin) 60 ref_bits_L1_ev (steps ref_bits_L1_pass)).mono fun α st k r h => by
  refine Eq.trans (congrArg (reNorm 0 ref_bits_L1_N ref_bits_L1_A ref_bits_L1_H st) ?_) h
  funext a m
  exact outOf_congr fun x => rfl
noncomputable def ref_bits_L1_h : Hints := ref_bits_h0.add [0, 1, 0, 1, 1] ref_bits_L1_sp
theorem ref_bits_L1_h_ok : ref_bits_L1_h.OK Tryz.prog (bodyOf Tryz.f137) := ref_bits_h0_ok.add (show codeAt (bodyOf Tryz.f137) [0, 1, 0, 1, 1] = some (.loop ((codeAt (bodyOf Tryz.f137) [0, 0, 1, 0, 1, 1]).getD .skip)) from by kernel_rfl) ref_bits_L1_ok
def ref_bits_L2_A : List SD := [.any, .loc 0 0 0, .any, .rowz 1, .any, .val (.int .i64), .any, .any, .any, .any, .any, .any, .any, .any, .any, .any, .any, .any, .any, .any, .any, .any, .any, .any, .any, .any, .any, .any, .any]
def ref_bits_L2_H : List HD := [.box [.val (.int .i64), .val (.int .i64)], .row (.int .i64)]
abbrev ref_bits_L2_D : Type := Nat × Int × Int × Int × (List Int)
def ref_bits_L2_to (a : DenS ref_bits_L2_A) (m : DenH ref_bits_L2_H) : ref_bits_L2_D := (a.2.2.2.1, a.2.2.2.2.2.1, m.1.1, m.1.2.1, m.2.1)
def ref_bits_L2_ofA (d : ref_bits_L2_D) : DenS ref_bits_L2_A := match d with | (s3_n, s5, m0_0, m0_1, m1) => ((), (), (), s3_n, (), s5, (), (), (), (), (), (), (), (), (), (), (), (), (), (), (), (), (), (), (), (), (), (), (), ())
def ref_bits_L2_ofH (d : ref_bits_L2_D) : DenH ref_bits_L2_H := match d with | (s3_n, s5, m0_0, m0_1, m1) => ((m0_0, m0_1, ()), m1, ())
def ref_bits_L2_N : Norm := (⟨[1, 3, 5], [], []⟩ : Go.TX.Norm)
def ref_bits_L2_X : Exit → Norm := fun e => match e with | .exit 2 => ⟨[3], [], []⟩ | _ => ⟨[], [], []⟩
abbrev ref_bits_L2_R : Type := (Nat × (List Int))
def ref_bits_L2_fin (v : ref_bits_L2_R) : Exit × St := ((.exit 2), ⟨[.any, .any, .any, .msl 0 0 v.1, .any, .any, .any, .any, .any, .any, .any, .any, .any, .any, .any, .any, .any, .any, .any, .any, .any, .any, .any, .any, .any, .any, .any, .any, .any], [.row (.int .i64) v.2]⟩)
noncomputable def ref_bits_L2_t {γ : Type} (s3_n : Nat) (s5 : Int) (m0_0 : Int) (m0_1 : Int) (m1 : (List Int)) (next : ref_bits_L2_D → Option γ) (out : ref_bits_L2_R → Option γ) : Option γ := cond (decide (s5 < (64 : Int))) (outOf (ref_Bit m0_1 s5) fun (x4 : Int) => cond (decide (s3_n + List.length [x4] ≤ (2147483648 : Nat))) (next (s3_n + List.length [x4], IntKind.wrap IntKind.i64 (s5 + (1 : Int)), m0_0, m0_1, List.take s3_n (List.drop (0 : Nat) m1) ++ [x4])) (none)) (out (s3_n, m1))
noncomputable def ref_bits_L2_pass (d : ref_bits_L2_D) : Option (ref_bits_L2_D ⊕ ref_bits_L2_R) := ref_bits_L2_t d.1 d.2.1 d.2.2.1 d.2.2.2.1 d.2.2.2.2 (fun d => some (.inl d)) (fun x => some (.inr x))
theorem ref_bits_L2_t_eq {γ : Type} (s3_n : Nat) (s5 : Int) (m0_0 : Int) (m0_1 : Int) (m1 : (List Int)) (next : ref_bits_L2_D → Option γ) (out : ref_bits_L2_R → Option γ) : ref_bits_L2_t s3_n s5 m0_0 m0_1 m1 next out = PassOf (ref_bits_L2_t s3_n s5 m0_0 m0_1 m1 (fun d => some (.inl d)) (fun x => some (.inr x))) next out := by
  delta ref_bits_L2_t; exact (Ps.nd (Ps.bd fun x4 => (Ps.nd Ps.nx Ps.no)) Ps.ou)
theorem ref_bits_L2_ev (α : Type) (d : ref_bits_L2_D) (next : ref_bits_L2_D → Option α) (k : Exit → St → Option α) : ev Tryz.prog PzRE1 ref_bits_L1_h 60 [0, 0, 1, 0, 1, 1, 1] ((codeAt (bodyOf Tryz.f137) [0, 0, 1, 0, 1, 1, 1]).getD .skip) ⟨mkS ref_bits_L2_A (ref_bits_L2_ofA d), mkH ref_bits_L2_H (ref_bits_L2_ofH d)⟩ (passK 0 ref_bits_L2_N ref_bits_L2_A ref_bits_L2_H ref_bits_L2_X (fun a m => next (ref_bits_L2_to a m)) k) = PassOf (ref_bits_L2_pass d) next fun x => k (ref_bits_L2_fin x).1 (ref_bits_L2_fin x).2 := by
  obtain ⟨s3_n, s5, m0_0, m0_1, m1⟩ := d
  exact (show _ = ref_bits_L2_t s3_n s5 m0_0 m0_1 m1 next (fun x => k (ref_bits_L2_fin x).1 (ref_bits_L2_fin x).2) from by kernel_rfl).trans (ref_bits_L2_t_eq s3_n s5 m0_0 m0_1 m1 _ _)
noncomputable def ref_bits_L2 (d : ref_bits_L2_D) : Option ref_bits_L2_R := runs ref_bits_L2_pass d
noncomputable def ref_bits_L2_sp : CSpec := fun _ st k => reNorm 0 ref_bits_L2_N ref_bits_L2_A ref_bits_L2_H st fun a m => outOf (ref_bits_L2 (ref_bits_L2_to a m)) fun v => k (.exit 2) ⟨[.any, .any, .any, .msl 0 0 v.1, .any, .any, .any, .any, .any, .any, .any, .any, .any, .any, .any, .any, .any, .any, .any, .any, .any, .any, .any, .any, .any, .any, .any, .any, .any], [.row (.int .i64) v.2]⟩
theorem ref_bits_L2_ok : SumOK Tryz.prog 0 (.loop ((codeAt (bodyOf Tryz.f137) [0, 0, 1, 0, 1, 1, 1]).getD .skip)) ref_bits_L2_sp := (SumOK.loop PzRE1_ok mixed ref_bits_L1_h_ok (show codeAt (bodyOf Tryz.f137) [0, 1, 0, 1, 1, 1] = some (.loop ((codeAt (bodyOf Tryz.f137) [0, 0, 1, 0, 1, 1, 1]).getD .skip)) from by kernel_rfl) (N := ref_bits_L2_N) (Nx := ref_bits_L2_X) (A := ref_bits_L2_A) (Hs := ref_bits_L2_H) (toD := ref_bits_L2_to) (ofA := ref_bits_L2_ofA) (ofH := ref_bits_L2_ofH) (fun _ _ => rfl) (fun _ _ => rfl) (pass := ref_bits_L2_pass) (fin := ref_bits_L2_fin) 60 ref_bits_L2_ev (steps ref_bits_L2_pass)).mono fun α st k r h => by
  refine Eq.trans (congrArg (reNorm 0 ref_bits_L2_N ref_bits_L2_A ref_bits_L2_H st) ?_) h
  funext a m
  exact outOf_congr fun x => rfl
noncomputable def ref_bits_L2_h : Hints := ref_bits_L1_h.add [0, 1, 0, 1, 1, 1] ref_bits_L2_sp
theorem ref_bits_L2_h_ok : ref_bits_L2_h.OK Tryz.prog (bodyOf Tryz.f137) := ref_bits_L1_h_ok.add (show codeAt (bodyOf Tryz.f137) [0, 1, 0, 1, 1, 1] = some (.loop ((codeAt (bodyOf Tryz.f137) [0, 0, 1, 0, 1, 1, 1]).getD .skip)) from by kernel_rfl) ref_bits_L2_ok
abbrev ref_bits_R : Type := ((List Int))
noncomputable def ref_bits_t {γ : Type} (a0_0 : Int) (a0_1 : Int) (k : ref_bits_R → Option γ) : Option γ := outOf (ref_bits_L1 ((0 : Nat), (0 : Int), a0_0, a0_1, [])) fun (x5 : (Nat × (Int × (Int × (List Int))))) => outOf (ref_bits_L2 (Prod.fst x5, (0 : Int), Prod.fst (Prod.snd x5), Prod.fst (Prod.snd (Prod.snd x5)), Prod.snd (Prod.snd (Prod.snd x5)))) fun (x6 : (Nat × (List Int))) => k (List.take (Prod.fst x6) (List.drop (0 : Nat) (Prod.snd x6)))
noncomputable def ref_bits (a0_0 : Int) (a0_1 : Int) : Option ref_bits_R := ref_bits_t a0_0 a0_1 some
theorem ref_bits_t_eq {γ : Type} (a0_0 : Int) (a0_1 : Int) (k : ref_bits_R → Option γ) : ref_bits_t a0_0 a0_1 k = outOf (ref_bits a0_0 a0_1) k := by
  delta ref_bits ref_bits_t; exact (Tr.bd fun x5 => (Tr.bd fun x6 => Tr.lf))
noncomputable def ref_bits_sp : TX.Spec := specD [.agg (.pair (.int .i64) (.int .i64))] [] fun _ a m k => match a, m with | ⟨⟨a0_0, a0_1⟩, _⟩, _ => outOf (ref_bits a0_0 a0_1) fun v => k (.sl (.int .i64) v false) []
theorem ref_bits_ev {α : Type} (a0_0 : Int) (a0_1 : Int) (k : Kont α) : evFun Tryz.prog PzRE1 (ref_bits_L2_h) false Tryz.f137 (bodyOf Tryz.f137) 60 (mkS [.agg (.pair (.int .i64) (.int .i64))] ((a0_0, a0_1), ())) (mkH [] ()) k = outOf (ref_bits a0_0 a0_1) fun v => k (.sl (.int .i64) v false) [] :=
  (show _ = ref_bits_t a0_0 a0_1 (fun v => k (.sl (.int .i64) v false) []) from by kernel_rfl).trans (ref_bits_t_eq a0_0 a0_1 _)
theorem ref_bits_good : TX.Good Tryz.prog 137 ref_bits_sp := good_form PzRE1_ok mixed Tryz.func137 (body_of rfl) (by kernel_rfl) false fun α a m k r h => by
  obtain ⟨⟨a0_0, a0_1⟩, _⟩ := a; obtain _ := m
  exact ⟨ref_bits_L2_h, 60, ref_bits_L2_h_ok, rfl, (ref_bits_ev a0_0 a0_1 k).trans h⟩
def ref_make2_h0 : Hints := Hints.nil 0
theorem ref_make2_h0_ok : ref_make2_h0.OK Tryz.prog (bodyOf Tryz.f138) := Hints.nil_ok
abbrev ref_make2_R : Type := (Int × Int)
noncomputable def ref_make2_t {γ : Type} (a0 : (List Int)) (k : ref_make2_R → Option γ) : Option γ := cond (decide ((0 : Int) ≤ (0 : Int) ∧ (0 : Int) ≤ (64 : Int) ∧ (64 : Int) ≤ (↑(List.length a0) : Int))) (outOf (ref_Make (List.take (64 : Nat) (List.drop (0 : Nat) a0))) fun (x1 : Int) => cond (decide ((0 : Int) ≤ (64 : Int) ∧ (64 : Int) ≤ (128 : Int) ∧ (128 : Int) ≤ (↑(List.length a0) : Int))) (outOf (ref_Make (List.take (64 : Nat) (List.drop (64 : Nat) a0))) fun (x2 : Int) => k (x1, x2)) (none)) (none)
noncomputable def ref_make2 (a0 : (List Int)) : Option ref_make2_R := ref_make2_t a0 some
theorem ref_make2_t_eq {γ : Type} (a0 : (List Int)) (k : ref_make2_R → Option γ) : ref_make2_t a0 k = outOf (ref_make2 a0) k := by
  delta ref_make2 ref_make2_t; exact (Tr.nd (Tr.bd fun x1 => (Tr.nd (Tr.bd fun x2 => Tr.lf) Tr.no)) Tr.no)
noncomputable def ref_make2_sp : TX.Spec := specD [.val (.sl (.int .i64))] [] fun _ a m k => match a, m with | ⟨a0, _⟩, _ => outOf (ref_make2 a0) fun v => k (.agg [.lit (.int .i64 v.1), .lit (.int .i64 v.2)]) []
theorem ref_make2_ev {α : Type} (a0 : (List Int)) (k : Kont α) : evFun Tryz.prog PzRE1 (ref_make2_h0) false Tryz.f138 (bodyOf Tryz.f138) 60 (mkS [.val (.sl (.int .i64))] (a0, ())) (mkH [] ()) k = outOf (ref_make2 a0) fun v => k (.agg [.lit (.int .i64 v.1), .lit (.int .i64 v.2)]) [] :=
  (show _ = ref_make2_t a0 (fun v => k (.agg [.lit (.int .i64 v.1), .lit (.int .i64 v.2)]) []) from by kernel_rfl).trans (ref_make2_t_eq a0 _)
theorem ref_make2_good : TX.Good Tryz.prog 138 ref_make2_sp := good_form PzRE1_ok mixed Tryz.func138 (body_of rfl) (by kernel_rfl) false fun α a m k r h => by
  obtain ⟨a0, _⟩ := a; obtain _ := m
  exact ⟨ref_make2_h0, 60, ref_make2_h0_ok, rfl, (ref_make2_ev a0 k).trans h⟩
def ref_Ult_h0 : Hints := Hints.nil 0
theorem ref_Ult_h0_ok : ref_Ult_h0.OK Tryz.prog (bodyOf Tryz.f103) := Hints.nil_ok
def ref_Ult_L1_A : List SD := [.val (.int .i64), .val (.int .i64), .any, .any, .any, .val (.int .i64), .any, .any, .any, .any, .any, .any, .any, .any, .any, .any, .any, .any, .any, .any, .any]
def ref_Ult_L1_H : List HD := []
abbrev ref_Ult_L1_D : Type := Int × Int × Int
def ref_Ult_L1_to (a : DenS ref_Ult_L1_A) (m : DenH ref_Ult_L1_H) : ref_Ult_L1_D := (a.1, a.2.1, a.2.2.2.2.2.1)
def ref_Ult_L1_ofA (d : ref_Ult_L1_D) : DenS ref_Ult_L1_A := match d with | (s0, s1, s5) => (s0, s1, (), (), (), s5, (), (), (), (), (), (), (), (), (), (), (), (), (), (), (), ())
def ref_Ult_L1_ofH (d : ref_Ult_L1_D) : DenH ref_Ult_L1_H := match d with | (s0, s1, s5) => ()
def ref_Ult_L1_N : Norm := (⟨[0, 1, 5], [], []⟩ : Go.TX.Norm)
def ref_Ult_L1_X : Exit → Norm := fun e => match e with | .exit 0 => ⟨[], [], []⟩ | .ret => ⟨[4], [], []⟩ | _ => ⟨[], [], []⟩
abbrev ref_Ult_L1_R : Type := ((Bool) ⊕ (Unit))
def ref_Ult_L1_fin (v : ref_Ult_L1_R) : Exit × St := sumOf v (fun v => (.ret, ⟨[.any, .any, .any, .any, .lit (.bool v), .any, .any, .any, .any, .any, .any, .any, .any, .any, .any, .any, .any, .any, .any, .any, .any], []⟩)) (fun v => ((.exit 0), ⟨[.any, .any, .any, .any, .any, .any, .any, .any, .any, .any, .any, .any, .any, .any, .any, .any, .any, .any, .any, .any, .any], []⟩))
noncomputable def ref_Ult_L1_t {γ : Type} (s0 : Int) (s1 : Int) (s5 : Int) (next : ref_Ult_L1_D → Option γ) (out : ref_Ult_L1_R → Option γ) : Option γ := cond (decide (s5 ≥ (0 : Int))) (outOf (ref_Bit s0 s5) fun (x1 : Int) => outOf (ref_Bit s1 s5) fun (x2 : Int) => cond (x1 != x2) (outOf (ref_Bit s1 s5) fun (x3 : Int) => out (.inl (x3 == (1 : Int)))) (next (s0, s1, IntKind.wrap IntKind.i64 (s5 - (1 : Int))))) (out (.inr ()))
noncomputable def ref_Ult_L1_pass (d : ref_Ult_L1_D) : Option (ref_Ult_L1_D ⊕ ref_Ult_L1_R) := ref_Ult_L1_t d.1 d.2.1 d.2.2 (fun d => some (.inl d)) (fun x => some (.inr x))
theorem ref_Ult_L1_t_eq {γ : Type} (s0 : Int) (s1 : Int) (s5 : Int) (next : ref_Ult_L1_D → Option γ) (out : ref_Ult_L1_R → Option γ) : ref_Ult_L1_t s0 s1 s5 next out = PassOf (ref_Ult_L1_t s0 s1 s5 (fun d => some (.inl d)) (fun x => some (.inr x))) next out := by
  delta ref_Ult_L1_t; exact (Ps.nd (Ps.bd fun x1 => (Ps.bd fun x2 => (Ps.nd (Ps.bd fun x3 => Ps.ou) Ps.nx))) Ps.ou)
theorem ref_Ult_L1_ev (α : Type) (d : ref_Ult_L1_D) (next : ref_Ult_L1_D → Option α) (k : Exit → St → Option α) : ev Tryz.prog PzRE1 ref_Ult_h0 60 [0, 0, 1, 0, 1] ((codeAt (bodyOf Tryz.f103) [0, 0, 1, 0, 1]).getD .skip) ⟨mkS ref_Ult_L1_A (ref_Ult_L1_ofA d), mkH ref_Ult_L1_H (ref_Ult_L1_ofH d)⟩ (passK 0 ref_Ult_L1_N ref_Ult_L1_A ref_Ult_L1_H ref_Ult_L1_X (fun a m => next (ref_Ult_L1_to a m)) k) = PassOf (ref_Ult_L1_pass d) next fun x => k (ref_Ult_L1_fin x).1 (ref_Ult_L1_fin x).2 := by
  obtain ⟨s0, s1, s5⟩ := d
  exact (show _ = ref_Ult_L1_t s0 s1 s5 next (fun x => k (ref_Ult_L1_fin x).1 (ref_Ult_L1_fin x).2) from by kernel_rfl).trans (ref_Ult_L1_t_eq s0 s1 s5 _ _)
noncomputable def ref_Ult_L1 (d : ref_Ult_L1_D) : Option ref_Ult_L1_R := runs ref_Ult_L1_pass d
noncomputable def ref_Ult_L1_sp : CSpec := fun _ st k => reNorm 0 ref_Ult_L1_N ref_Ult_L1_A ref_Ult_L1_H st fun a m => outOf (ref_Ult_L1 (ref_Ult_L1_to a m)) fun v => sumOf v (fun v => k .ret ⟨[.any, .any, .any, .any, .lit (.bool v), .any, .any, .any, .any, .any, .any, .any, .any, .any, .any, .any, .any, .any, .any, .any, .any], []⟩) (fun v => k (.exit 0) ⟨[.any, .any, .any, .any, .any, .any, .any, .any, .any, .any, .any, .any, .any, .any, .any, .any, .any, .any, .any, .any, .any], []⟩)
theorem ref_Ult_L1_ok : SumOK Tryz.prog 0 (.loop ((codeAt (bodyOf Tryz.f103) [0, 0, 1, 0, 1]).getD .skip)) ref_Ult_L1_sp := (SumOK.loop PzRE1_ok mixed ref_Ult_h0_ok (show codeAt (bodyOf Tryz.f103) [0, 1, 0, 1] = some (.loop ((codeAt (bodyOf Tryz.f103) [0, 0, 1, 0, 1]).getD .skip)) from by kernel_rfl) (N := ref_Ult_L1_N) (Nx := ref_Ult_L1_X) (A := ref_Ult_L1_A) (Hs := ref_Ult_L1_H) (toD := ref_Ult_L1_to) (ofA := ref_Ult_L1_ofA) (ofH := ref_Ult_L1_ofH) (fun _ _ => rfl) (fun _ _ => rfl) (pass := ref_Ult_L1_pass) (fin := ref_Ult_L1_fin) 60 ref_Ult_L1_ev (steps ref_Ult_L1_pass)).mono fun α st k r h => by
  refine Eq.trans (congrArg (reNorm 0 ref_Ult_L1_N ref_Ult_L1_A ref_Ult_L1_H st) ?_) h
  funext a m
  exact outOf_congr fun x => by rcases x with x | x <;> rfl
noncomputable def ref_Ult_L1_h : Hints := ref_Ult_h0.add [0, 1, 0, 1] ref_Ult_L1_sp
theorem ref_Ult_L1_h_ok : ref_Ult_L1_h.OK Tryz.prog (bodyOf Tryz.f103) := ref_Ult_h0_ok.add (show codeAt (bodyOf Tryz.f103) [0, 1, 0, 1] = some (.loop ((codeAt (bodyOf Tryz.f103) [0, 0, 1, 0, 1]).getD .skip)) from by kernel_rfl) ref_Ult_L1_ok
abbrev ref_Ult_R : Type := (Bool)
noncomputable def ref_Ult_t {γ : Type} (a0 : Int) (a1 : Int) (k : ref_Ult_R → Option γ) : Option γ := outOf (ref_Ult_L1 (a0, a1, (63 : Int))) fun (x4 : Bool ⊕ Unit) => sumOf x4 (fun x5 => k (x5)) (fun x6 => k (false))
noncomputable def ref_Ult (a0 : Int) (a1 : Int) : Option ref_Ult_R := ref_Ult_t a0 a1 some
theorem ref_Ult_t_eq {γ : Type} (a0 : Int) (a1 : Int) (k : ref_Ult_R → Option γ) : ref_Ult_t a0 a1 k = outOf (ref_Ult a0 a1) k := by
  delta ref_Ult ref_Ult_t; exact (Tr.bd fun x4 => (Tr.cs (fun x5 => Tr.lf) (fun x6 => Tr.lf)))
noncomputable def ref_Ult_sp : TX.Spec := specD [.val (.int .i64), .val (.int .i64)] [] fun _ a m k => match a, m with | ⟨a0, a1, _⟩, _ => outOf (ref_Ult a0 a1) fun v => k (.lit (.bool v)) []
theorem ref_Ult_ev {α : Type} (a0 : Int) (a1 : Int) (k : Kont α) : evFun Tryz.prog PzRE1 (ref_Ult_L1_h) false Tryz.f103 (bodyOf Tryz.f103) 60 (mkS [.val (.int .i64), .val (.int .i64)] (a0, a1, ())) (mkH [] ()) k = outOf (ref_Ult a0 a1) fun v => k (.lit (.bool v)) [] :=
  (show _ = ref_Ult_t a0 a1 (fun v => k (.lit (.bool v)) []) from by kernel_rfl).trans (ref_Ult_t_eq a0 a1 _)
theorem ref_Ult_good : TX.Good Tryz.prog 103 ref_Ult_sp := good_form PzRE1_ok mixed Tryz.func103 (body_of rfl) (by kernel_rfl) false fun α a m k r h => by
  obtain ⟨a0, a1, _⟩ := a; obtain _ := m
  exact ⟨ref_Ult_L1_h, 60, ref_Ult_L1_h_ok, rfl, (ref_Ult_ev a0 a1 k).trans h⟩
def r1_Symm_h0 : Hints := Hints.nil 0
theorem r1_Symm_h0_ok : r1_Symm_h0.OK Tryz.prog (bodyOf Tryz.f132) := Hints.nil_ok
abbrev r1_Symm_R : Type := (Int × Int × Int)
noncomputable def r1_Symm_t {γ : Type} (a0 : Int) (a1 : Int) (k : r1_Symm_R → Option γ) : Option γ := outOf (r1_wrong a0 a1) fun (x1 : Int) => cond (x1 != (0 : Int)) (k ((0 : Int), (0 : Int), x1)) (cond (decide (a1 = (0 : Int))) (none) (cond (decide (a1 = (0 : Int))) (none) (k (IntKind.wrap IntKind.i64 (Int.tdiv a0 a1), Int.tmod a0 a1, (0 : Int)))))
noncomputable def r1_Symm (a0 : Int) (a1 : Int) : Option r1_Symm_R := r1_Symm_t a0 a1 some
theorem r1_Symm_t_eq {γ : Type} (a0 : Int) (a1 : Int) (k : r1_Symm_R → Option γ) : r1_Symm_t a0 a1 k = outOf (r1_Symm a0 a1) k := by
  delta r1_Symm r1_Symm_t; exact (Tr.bd fun x1 => (Tr.nd Tr.lf (Tr.nd Tr.no (Tr.nd Tr.no Tr.lf))))
noncomputable def r1_Symm_sp : TX.Spec := specD [.val (.int .i64), .val (.int .i64)] [] fun _ a m k => match a, m with | ⟨a0, a1, _⟩, _ => outOf (r1_Symm a0 a1) fun v => k (.tup [.lit (.int .i64 v.1), .lit (.int .i64 v.2.1), .lit (.int .i64 v.2.2)]) []
theorem r1_Symm_ev {α : Type} (a0 : Int) (a1 : Int) (k : Kont α) : evFun Tryz.prog PzRE1 (r1_Symm_h0) false Tryz.f132 (bodyOf Tryz.f132) 60 (mkS [.val (.int .i64), .val (.int .i64)] (a0, a1, ())) (mkH [] ()) k = outOf (r1_Symm a0 a1) fun v => k (.tup [.lit (.int .i64 v.1), .lit (.int .i64 v.2.1), .lit (.int .i64 v.2.2)]) [] :=
  (show _ = r1_Symm_t a0 a1 (fun v => k (.tup [.lit (.int .i64 v.1), .lit (.int .i64 v.2.1), .lit (.int .i64 v.2.2)]) []) from by kernel_rfl).trans (r1_Symm_t_eq a0 a1 _)
theorem r1_Symm_good : TX.Good Tryz.prog 132 r1_Symm_sp := good_form PzRE1_ok mixed Tryz.func132 (body_of rfl) (by kernel_rfl) false fun α a m k r h => by
  obtain ⟨a0, a1, _⟩ := a; obtain _ := m
  exact ⟨r1_Symm_h0, 60, r1_Symm_h0_ok, rfl, (r1_Symm_ev a0 a1 k).trans h⟩
def r1_Shl_h0 : Hints := Hints.nil 0
theorem r1_Shl_h0_ok : r1_Shl_h0.OK Tryz.prog (bodyOf Tryz.f101) := Hints.nil_ok
def r1_Shl_M1_A : List SD := [.val (.int .i64), .val (.int .i64), .any, .any, .any, .any, .any, .any, .any, .any, .any, .any, .any, .any, .any, .any, .any, .any, .any, .any, .any, .any, .any, .any, .any, .any, .any, .any, .any]
def r1_Shl_M1_H : List HD := []
abbrev r1_Shl_M1_D : Type := Int × Int
def r1_Shl_M1_to (a : DenS r1_Shl_M1_A) (m : DenH r1_Shl_M1_H) : r1_Shl_M1_D := (a.1, a.2.1)
def r1_Shl_M1_ofA (d : r1_Shl_M1_D) : DenS r1_Shl_M1_A := match d with | (s0, s1) => (s0, s1, (), (), (), (), (), (), (), (), (), (), (), (), (), (), (), (), (), (), (), (), (), (), (), (), (), (), (), ())
def r1_Shl_M1_ofH (d : r1_Shl_M1_D) : DenH r1_Shl_M1_H := match d with | (s0, s1) => ()
def r1_Shl_M1_N : Norm := (⟨[0, 1], [], []⟩ : Go.TX.Norm)
def r1_Shl_M1_X : Exit → Norm := fun e => match e with | .normal => ⟨[0, 1], [], []⟩ | .ret => ⟨[4], [], []⟩ | _ => ⟨[], [], []⟩
abbrev r1_Shl_M1_R : Type := ((Int) ⊕ (Unit))
def r1_Shl_M1_fin (d : r1_Shl_M1_D) (v : r1_Shl_M1_R) : Exit × St := sumOf v (fun v => (.ret, ⟨[.any, .any, .any, .any, .lit (.int .i64 v), .any, .any, .any, .any, .any, .any, .any, .any, .any, .any, .any, .any, .any, .any, .any, .any, .any, .any, .any, .any, .any, .any, .any, .any], []⟩)) (fun v => (.normal, ⟨[.lit (.int .i64 d.1), .lit (.int .i64 d.2), .any, .any, .any, .any, .any, .any, .any, .any, .any, .any, .any, .any, .any, .any, .any, .any, .any, .any, .any, .any, .any, .any, .any, .any, .any, .any, .any], []⟩))
noncomputable def r1_Shl_M1_t {γ : Type} (s1 : Int) (k : r1_Shl_M1_R → Option γ) : Option γ := cond (decide (s1 < (0 : Int))) (k (.inl ((0 : Int)))) (cond (decide (s1 > (63 : Int))) (k (.inl ((0 : Int)))) (k (.inr ())))
noncomputable def r1_Shl_M1 (s1 : Int) : Option r1_Shl_M1_R := r1_Shl_M1_t s1 some
theorem r1_Shl_M1_t_eq {γ : Type} (s1 : Int) (k : r1_Shl_M1_R → Option γ) : r1_Shl_M1_t s1 k = outOf (r1_Shl_M1 s1) k := by
  delta r1_Shl_M1 r1_Shl_M1_t; exact (Tr.nd Tr.lf (Tr.nd Tr.lf Tr.lf))
theorem r1_Shl_M1_ev (α : Type) (d : r1_Shl_M1_D) (k : Exit → St → Option α) : ev Tryz.prog PzRE1 r1_Shl_h0 60 [0, 1] ((codeAt (bodyOf Tryz.f101) [0, 1]).getD .skip) ⟨mkS r1_Shl_M1_A (r1_Shl_M1_ofA d), mkH r1_Shl_M1_H (r1_Shl_M1_ofH d)⟩ (exitN 0 r1_Shl_M1_X k) = outOf (r1_Shl_M1 d.2) fun x => k (r1_Shl_M1_fin d x).1 (r1_Shl_M1_fin d x).2 := by
  obtain ⟨s0, s1⟩ := d
  exact (show _ = r1_Shl_M1_t s1 (fun x => k (r1_Shl_M1_fin (s0, s1) x).1 (r1_Shl_M1_fin (s0, s1) x).2) from by kernel_rfl).trans (r1_Shl_M1_t_eq s1 _)
noncomputable def r1_Shl_M1_sp : CSpec := fun _ st k => reNorm 0 r1_Shl_M1_N r1_Shl_M1_A r1_Shl_M1_H st fun a m => outOf (r1_Shl_M1 (r1_Shl_M1_to a m).2) fun v => sumOf v (fun v => k .ret ⟨[.any, .any, .any, .any, .lit (.int .i64 v), .any, .any, .any, .any, .any, .any, .any, .any, .any, .any, .any, .any, .any, .any, .any, .any, .any, .any, .any, .any, .any, .any, .any, .any], []⟩) (fun v => k .normal ⟨[.lit (.int .i64 (r1_Shl_M1_to a m).1), .lit (.int .i64 (r1_Shl_M1_to a m).2), .any, .any, .any, .any, .any, .any, .any, .any, .any, .any, .any, .any, .any, .any, .any, .any, .any, .any, .any, .any, .any, .any, .any, .any, .any, .any, .any], []⟩)
theorem r1_Shl_M1_ok : SumOK Tryz.prog 0 ((codeAt (bodyOf Tryz.f101) [0, 1]).getD .skip) r1_Shl_M1_sp := (SumOK.once PzRE1_ok mixed r1_Shl_h0_ok (show codeAt (bodyOf Tryz.f101) [0, 1] = some ((codeAt (bodyOf Tryz.f101) [0, 1]).getD .skip) from by kernel_rfl) (N := r1_Shl_M1_N) (Nx := r1_Shl_M1_X) (A := r1_Shl_M1_A) (Hs := r1_Shl_M1_H) (toD := r1_Shl_M1_to) (ofA := r1_Shl_M1_ofA) (ofH := r1_Shl_M1_ofH) (fun _ _ => rfl) (fun _ _ => rfl) (M := fun d => r1_Shl_M1 d.2) (fin := r1_Shl_M1_fin) 60 r1_Shl_M1_ev).mono fun α st k r h => by
  refine Eq.trans (congrArg (reNorm 0 r1_Shl_M1_N r1_Shl_M1_A r1_Shl_M1_H st) ?_) h
  funext a m
  exact outOf_congr fun x => by rcases x with x | x <;> rfl
noncomputable def r1_Shl_M1_h : Hints := r1_Shl_h0.add [0, 1] r1_Shl_M1_sp
theorem r1_Shl_M1_h_ok : r1_Shl_M1_h.OK Tryz.prog (bodyOf Tryz.f101) := r1_Shl_h0_ok.add (show codeAt (bodyOf Tryz.f101) [0, 1] = some ((codeAt (bodyOf Tryz.f101) [0, 1]).getD .skip) from by kernel_rfl) r1_Shl_M1_ok
def r1_Shl_L1_A : List SD := [.val (.int .i64), .val (.int .i64), .any, .any, .any, .rowz 0, .val (.int .i64), .any, .any, .any, .any, .any, .any, .any, .any, .any, .any, .any, .any, .any, .any, .any, .any, .any, .any, .any, .any, .any, .any]
def r1_Shl_L1_H : List HD := [.row (.int .i64)]
abbrev r1_Shl_L1_D : Type := Int × Int × Nat × Int × (List Int)
def r1_Shl_L1_to (a : DenS r1_Shl_L1_A) (m : DenH r1_Shl_L1_H) : r1_Shl_L1_D := (a.1, a.2.1, a.2.2.2.2.2.1, a.2.2.2.2.2.2.1, m.1)
def r1_Shl_L1_ofA (d : r1_Shl_L1_D) : DenS r1_Shl_L1_A := match d with | (s0, s1, s5_n, s6, m0) => (s0, s1, (), (), (), s5_n, s6, (), (), (), (), (), (), (), (), (), (), (), (), (), (), (), (), (), (), (), (), (), (), ())
def r1_Shl_L1_ofH (d : r1_Shl_L1_D) : DenH r1_Shl_L1_H := match d with | (s0, s1, s5_n, s6, m0) => (m0, ())
def r1_Shl_L1_N : Norm := (⟨[0, 1, 5, 6], [], []⟩ : Go.TX.Norm)
def r1_Shl_L1_X : Exit → Norm := fun e => match e with | .exit 0 => ⟨[5], [], []⟩ | _ => ⟨[], [], []⟩
abbrev r1_Shl_L1_R : Type := (Nat × (List Int))
def r1_Shl_L1_fin (v : r1_Shl_L1_R) : Exit × St := ((.exit 0), ⟨[.any, .any, .any, .any, .any, .msl 0 0 v.1, .any, .any, .any, .any, .any, .any, .any, .any, .any, .any, .any, .any, .any, .any, .any, .any, .any, .any, .any, .any, .any, .any, .any], [.row (.int .i64) v.2]⟩)
noncomputable def r1_Shl_L1_t {γ : Type} (s0 : Int) (s1 : Int) (s5_n : Nat) (s6 : Int) (m0 : (List Int)) (next : r1_Shl_L1_D → Option γ) (out : r1_Shl_L1_R → Option γ) : Option γ := cond (decide (s6 < (64 : Int))) (outOf (ref_Bit s0 (IntKind.wrap IntKind.i64 (s6 - s1))) fun (x7 : Int) => cond (decide ((0 : Int) ≤ s6 ∧ s6 < (↑s5_n : Int))) (next (s0, s1, s5_n, IntKind.wrap IntKind.i64 (s6 + (1 : Int)), List.set m0 ((0 : Nat) + Int.toNat s6) x7)) (none)) (out (s5_n, m0))
noncomputable def r1_Shl_L1_pass (d : r1_Shl_L1_D) : Option (r1_Shl_L1_D ⊕ r1_Shl_L1_R) := r1_Shl_L1_t d.1 d.2.1 d.2.2.1 d.2.2.2.1 d.2.2.2.2 (fun d => some (.inl d)) (fun x => some (.inr x))
theorem r1_Shl_L1_t_eq {γ : Type} (s0 : Int) (s1 : Int) (s5_n : Nat) (s6 : Int) (m0 : (List Int)) (next : r1_Shl_L1_D → Option γ) (out : r1_Shl_L1_R → Option γ) : r1_Shl_L1_t s0 s1 s5_n s6 m0 next out = PassOf (r1_Shl_L1_t s0 s1 s5_n s6 m0 (fun d => some (.inl d)) (fun x => some (.inr x))) next out := by
  delta r1_Shl_L1_t; exact (Ps.nd (Ps.bd fun x7 => (Ps.nd Ps.nx Ps.no)) Ps.ou)
theorem r1_Shl_L1_ev (α : Type) (d : r1_Shl_L1_D) (next : r1_Shl_L1_D → Option α) (k : Exit → St → Option α) : ev Tryz.prog PzRE1 r1_Shl_M1_h 60 [0, 0, 1, 0, 1, 1, 1] ((codeAt (bodyOf Tryz.f101) [0, 0, 1, 0, 1, 1, 1]).getD .skip) ⟨mkS r1_Shl_L1_A (r1_Shl_L1_ofA d), mkH r1_Shl_L1_H (r1_Shl_L1_ofH d)⟩ (passK 0 r1_Shl_L1_N r1_Shl_L1_A r1_Shl_L1_H r1_Shl_L1_X (fun a m => next (r1_Shl_L1_to a m)) k) = PassOf (r1_Shl_L1_pass d) next fun x => k (r1_Shl_L1_fin x).1 (r1_Shl_L1_fin x).2 := by
  obtain ⟨s0, s1, s5_n, s6, m0⟩ := d
  exact (show _ = r1_Shl_L1_t s0 s1 s5_n s6 m0 next (fun x => k (r1_Shl_L1_fin x).1 (r1_Shl_L1_fin x).2) from by kernel_rfl).trans (r1_Shl_L1_t_eq s0 s1 s5_n s6 m0 _ _)
noncomputable def r1_Shl_L1 (d : r1_Shl_L1_D) : Option r1_Shl_L1_R := runs r1_Shl_L1_pass d
noncomputable def r1_Shl_L1_sp : CSpec := fun _ st k => reNorm 0 r1_Shl_L1_N r1_Shl_L1_A r1_Shl_L1_H st fun a m => outOf (r1_Shl_L1 (r1_Shl_L1_to a m)) fun v => k (.exit 0) ⟨[.any, .any, .any, .any, .any, .msl 0 0 v.1, .any, .any, .any, .any, .any, .any, .any, .any, .any, .any, .any, .any, .any, .any, .any, .any, .any, .any, .any, .any, .any, .any, .any], [.row (.int .i64) v.2]⟩
theorem r1_Shl_L1_ok : SumOK Tryz.prog 0 (.loop ((codeAt (bodyOf Tryz.f101) [0, 0, 1, 0, 1, 1, 1]).getD .skip)) r1_Shl_L1_sp := (SumOK.loop PzRE1_ok mixed r1_Shl_M1_h_ok (show codeAt (bodyOf Tryz.f101) [0, 1, 0, 1, 1, 1] = some (.loop ((codeAt (bodyOf Tryz.f101) [0, 0, 1, 0, 1, 1, 1]).getD .skip)) from by kernel_rfl) (N := r1_Shl_L1_N) (Nx := r1_Shl_L1_X) (A := r1_Shl_L1_A) (Hs := r1_Shl_L1_H) (toD := r1_Shl_L1_to) (ofA := r1_Shl_L1_ofA) (ofH := r1_Shl_L1_ofH) (fun _ _ => rfl) (fun _ _ => rfl) (pass := r1_Shl_L1_pass) (fin := r1_Shl_L1_fin) 60 r1_Shl_L1_ev (steps r1_Shl_L1_pass)).mono fun α st k r h => by
  refine Eq.trans (congrArg (reNorm 0 r1_Shl_L1_N r1_Shl_L1_A r1_Shl_L1_H st) ?_) h
  funext a m
  exact outOf_congr fun x => rfl
noncomputable def r1_Shl_L1_h : Hints := r1_Shl_M1_h.add [0, 1, 0, 1, 1, 1] r1_Shl_L1_sp
theorem r1_Shl_L1_h_ok : r1_Shl_L1_h.OK Tryz.prog (bodyOf Tryz.f101) := r1_Shl_M1_h_ok.add (show codeAt (bodyOf Tryz.f101) [0, 1, 0, 1, 1, 1] = some (.loop ((codeAt (bodyOf Tryz.f101) [0, 0, 1, 0, 1, 1, 1]).getD .skip)) from by kernel_rfl) r1_Shl_L1_ok
abbrev r1_Shl_R : Type := (Int)
noncomputable def r1_Shl_t {γ : Type} (a0 : Int) (a1 : Int) (k : r1_Shl_R → Option γ) : Option γ := outOf (r1_Shl_M1 a1) fun (x8 : Int ⊕ Unit) => sumOf x8 (fun x9 => k (x9)) (fun x10 => outOf (r1_Shl_L1 (a0, a1, (64 : Nat), a1, List.replicate (64 : Nat) (0 : Int))) fun (x11 : (Nat × (List Int))) => outOf (ref_Make (List.take (Prod.fst x11) (List.drop (0 : Nat) (Prod.snd x11)))) fun (x12 : Int) => k (x12))
noncomputable def r1_Shl (a0 : Int) (a1 : Int) : Option r1_Shl_R := r1_Shl_t a0 a1 some
theorem r1_Shl_t_eq {γ : Type} (a0 : Int) (a1 : Int) (k : r1_Shl_R → Option γ) : r1_Shl_t a0 a1 k = outOf (r1_Shl a0 a1) k := by
  delta r1_Shl r1_Shl_t; exact (Tr.bd fun x8 => (Tr.cs (fun x9 => Tr.lf) (fun x10 => (Tr.bd fun x11 => (Tr.bd fun x12 => Tr.lf)))))
noncomputable def r1_Shl_sp : TX.Spec := specD [.val (.int .i64), .val (.int .i64)] [] fun _ a m k => match a, m with | ⟨a0, a1, _⟩, _ => outOf (r1_Shl a0 a1) fun v => k (.lit (.int .i64 v)) []
theorem r1_Shl_ev {α : Type} (a0 : Int) (a1 : Int) (k : Kont α) : evFun Tryz.prog PzRE1 (r1_Shl_L1_h) false Tryz.f101 (bodyOf Tryz.f101) 60 (mkS [.val (.int .i64), .val (.int .i64)] (a0, a1, ())) (mkH [] ()) k = outOf (r1_Shl a0 a1) fun v => k (.lit (.int .i64 v)) [] :=
  (show _ = r1_Shl_t a0 a1 (fun v => k (.lit (.int .i64 v)) []) from by kernel_rfl).trans (r1_Shl_t_eq a0 a1 _)
theorem r1_Shl_good : TX.Good Tryz.prog 101 r1_Shl_sp := good_form PzRE1_ok mixed Tryz.func101 (body_of rfl) (by kernel_rfl) false fun α a m k r h => by
  obtain ⟨a0, a1, _⟩ := a; obtain _ := m
  exact ⟨r1_Shl_L1_h, 60, r1_Shl_L1_h_ok, rfl, (r1_Shl_ev a0 a1 k).trans h⟩
def r1_Shr_h0 : Hints := Hints.nil 0
theorem r1_Shr_h0_ok : r1_Shr_h0.OK Tryz.prog (bodyOf Tryz.f102) := Hints.nil_ok
def r1_Shr_M1_A : List SD := [.val (.int .i64), .val (.int .i64), .any, .any, .any, .any, .any, .any, .any, .any, .any, .any, .any, .any, .any, .any, .any, .any, .any, .any, .any, .any, .any, .any, .any, .any, .any, .any, .any, .any]
def r1_Shr_M1_H : List HD := []
abbrev r1_Shr_M1_D : Type := Int × Int
def r1_Shr_M1_to (a : DenS r1_Shr_M1_A) (m : DenH r1_Shr_M1_H) : r1_Shr_M1_D := (a.1, a.2.1)
def r1_Shr_M1_ofA (d : r1_Shr_M1_D) : DenS r1_Shr_M1_A := match d with | (s0, s1) => (s0, s1, (), (), (), (), (), (), (), (), (), (), (), (), (), (), (), (), (), (), (), (), (), (), (), (), (), (), (), (), ())
def r1_Shr_M1_ofH (d : r1_Shr_M1_D) : DenH r1_Shr_M1_H := match d with | (s0, s1) => ()
def r1_Shr_M1_N : Norm := (⟨[0, 1], [], []⟩ : Go.TX.Norm)
def r1_Shr_M1_X : Exit → Norm := fun e => match e with | .normal => ⟨[0, 1], [], []⟩ | .ret => ⟨[4], [], []⟩ | _ => ⟨[], [], []⟩
abbrev r1_Shr_M1_R : Type := ((Int) ⊕ (Unit))
def r1_Shr_M1_fin (d : r1_Shr_M1_D) (v : r1_Shr_M1_R) : Exit × St := sumOf v (fun v => (.ret, ⟨[.any, .any, .any, .any, .lit (.int .i64 v), .any, .any, .any, .any, .any, .any, .any, .any, .any, .any, .any, .any, .any, .any, .any, .any, .any, .any, .any, .any, .any, .any, .any, .any, .any], []⟩)) (fun v => (.normal, ⟨[.lit (.int .i64 d.1), .lit (.int .i64 d.2), .any, .any, .any, .any, .any, .any, .any, .any, .any, .any, .any, .any, .any, .any, .any, .any, .any, .any, .any, .any, .any, .any, .any, .any, .any, .any, .any, .any], []⟩))
noncomputable def r1_Shr_M1_t {γ : Type} (s1 : Int) (k : r1_Shr_M1_R → Option γ) : Option γ := cond (decide (s1 < (0 : Int))) (k (.inl ((0 : Int)))) (cond (decide (s1 > (63 : Int))) (k (.inl ((0 : Int)))) (k (.inr ())))
noncomputable def r1_Shr_M1 (s1 : Int) : Option r1_Shr_M1_R := r1_Shr_M1_t s1 some
theorem r1_Shr_M1_t_eq {γ : Type} (s1 : Int) (k : r1_Shr_M1_R → Option γ) : r1_Shr_M1_t s1 k = outOf (r1_Shr_M1 s1) k := by
  delta r1_Shr_M1 r1_Shr_M1_t; exact (Tr.nd Tr.lf (Tr.nd Tr.lf Tr.lf))
theorem r1_Shr_M1_ev (α : Type) (d : r1_Shr_M1_D) (k : Exit → St → Option α) : ev Tryz.prog PzRE1 r1_Shr_h0 60 [0, 1] ((codeAt (bodyOf Tryz.f102) [0, 1]).getD .skip) ⟨mkS r1_Shr_M1_A (r1_Shr_M1_ofA d), mkH r1_Shr_M1_H (r1_Shr_M1_ofH d)⟩ (exitN 0 r1_Shr_M1_X k) = outOf (r1_Shr_M1 d.2) fun x => k (r1_Shr_M1_fin d x).1 (r1_Shr_M1_fin d x).2 := by
  obtain ⟨s0, s1⟩ := d
  exact (show _ = r1_Shr_M1_t s1 (fun x => k (r1_Shr_M1_fin (s0, s1) x).1 (r1_Shr_M1_fin (s0, s1) x).2) from by kernel_rfl).trans (r1_Shr_M1_t_eq s1 _)
noncomputable def r1_Shr_M1_sp : CSpec := fun _ st k => reNorm 0 r1_Shr_M1_N r1_Shr_M1_A r1_Shr_M1_H st fun a m => outOf (r1_Shr_M1 (r1_Shr_M1_to a m).2) fun v => sumOf v (fun v => k .ret ⟨[.any, .any, .any, .any, .lit (.int .i64 v), .any, .any, .any, .any, .any, .any, .any, .any, .any, .any, .any, .any, .any, .any, .any, .any, .any, .any, .any, .any, .any, .any, .any, .any, .any], []⟩) (fun v => k .normal ⟨[.lit (.int .i64 (r1_Shr_M1_to a m).1), .lit (.int .i64 (r1_Shr_M1_to a m).2), .any, .any, .any, .any, .any, .any, .any, .any, .any, .any, .any, .any, .any, .any, .any, .any, .any, .any, .any, .any, .any, .any, .any, .any, .any, .any, .any, .any], []⟩)
theorem r1_Shr_M1_ok : SumOK Tryz.prog 0 ((codeAt (bodyOf Tryz.f102) [0, 1]).getD .skip) r1_Shr_M1_sp := (SumOK.once PzRE1_ok mixed r1_Shr_h0_ok (show codeAt (bodyOf Tryz.f102) [0, 1] = some ((codeAt (bodyOf Tryz.f102) [0, 1]).getD .skip) from by kernel_rfl) (N := r1_Shr_M1_N) (Nx := r1_Shr_M1_X) (A := r1_Shr_M1_A) (Hs := r1_Shr_M1_H) (toD := r1_Shr_M1_to) (ofA := r1_Shr_M1_ofA) (ofH := r1_Shr_M1_ofH) (fun _ _ => rfl) (fun _ _ => rfl) (M := fun d => r1_Shr_M1 d.2) (fin := r1_Shr_M1_fin) 60 r1_Shr_M1_ev).mono fun α st k r h => by
  refine Eq.trans (congrArg (reNorm 0 r1_Shr_M1_N r1_Shr_M1_A r1_Shr_M1_H st) ?_) h
  funext a m
  exact outOf_congr fun x => by rcases x with x | x <;> rfl
noncomputable def r1_Shr_M1_h : Hints := r1_Shr_h0.add [0, 1] r1_Shr_M1_sp
theorem r1_Shr_M1_h_ok : r1_Shr_M1_h.OK Tryz.prog (bodyOf Tryz.f102) := r1_Shr_h0_ok.add (show codeAt (bodyOf Tryz.f102) [0, 1] = some ((codeAt (bodyOf Tryz.f102) [0, 1]).getD .skip) from by kernel_rfl) r1_Shr_M1_ok
def r1_Shr_L1_A : List SD := [.val (.int .i64), .val (.int .i64), .any, .any, .any, .rowz 0, .val (.int .i64), .any, .any, .any, .any, .any, .any, .any, .any, .any, .any, .any, .any, .any, .any, .any, .any, .any, .any, .any, .any, .any, .any, .any]
def r1_Shr_L1_H : List HD := [.row (.int .i64)]
abbrev r1_Shr_L1_D : Type := Int × Int × Nat × Int × (List Int)
def r1_Shr_L1_to (a : DenS r1_Shr_L1_A) (m : DenH r1_Shr_L1_H) : r1_Shr_L1_D := (a.1, a.2.1, a.2.2.2.2.2.1, a.2.2.2.2.2.2.1, m.1)
def r1_Shr_L1_ofA (d : r1_Shr_L1_D) : DenS r1_Shr_L1_A := match d with | (s0, s1, s5_n, s6, m0) => (s0, s1, (), (), (), s5_n, s6, (), (), (), (), (), (), (), (), (), (), (), (), (), (), (), (), (), (), (), (), (), (), (), ())
def r1_Shr_L1_ofH (d : r1_Shr_L1_D) : DenH r1_Shr_L1_H := match d with | (s0, s1, s5_n, s6, m0) => (m0, ())
def r1_Shr_L1_N : Norm := (⟨[0, 1, 5, 6], [], []⟩ : Go.TX.Norm)
def r1_Shr_L1_X : Exit → Norm := fun e => match e with | .exit 0 => ⟨[5], [], []⟩ | _ => ⟨[], [], []⟩
abbrev r1_Shr_L1_R : Type := (Nat × (List Int))
def r1_Shr_L1_fin (v : r1_Shr_L1_R) : Exit × St := ((.exit 0), ⟨[.any, .any, .any, .any, .any, .msl 0 0 v.1, .any, .any, .any, .any, .any, .any, .any, .any, .any, .any, .any, .any, .any, .any, .any, .any, .any, .any, .any, .any, .any, .any, .any, .any], [.row (.int .i64) v.2]⟩)
noncomputable def r1_Shr_L1_t {γ : Type} (s0 : Int) (s1 : Int) (s5_n : Nat) (s6 : Int) (m0 : (List Int)) (next : r1_Shr_L1_D → Option γ) (out : r1_Shr_L1_R → Option γ) : Option γ := cond (decide (IntKind.wrap IntKind.i64 (s6 + s1) < (64 : Int))) (outOf (ref_Bit s0 (IntKind.wrap IntKind.i64 (s6 + s1))) fun (x7 : Int) => cond (decide ((0 : Int) ≤ s6 ∧ s6 < (↑s5_n : Int))) (next (s0, s1, s5_n, IntKind.wrap IntKind.i64 (s6 + (1 : Int)), List.set m0 ((0 : Nat) + Int.toNat s6) x7)) (none)) (out (s5_n, m0))
noncomputable def r1_Shr_L1_pass (d : r1_Shr_L1_D) : Option (r1_Shr_L1_D ⊕ r1_Shr_L1_R) := r1_Shr_L1_t d.1 d.2.1 d.2.2.1 d.2.2.2.1 d.2.2.2.2 (fun d => some (.inl d)) (fun x => some (.inr x))
theorem r1_Shr_L1_t_eq {γ : Type} (s0 : Int) (s1 : Int) (s5_n : Nat) (s6 : Int) (m0 : (List Int)) (next : r1_Shr_L1_D → Option γ) (out : r1_Shr_L1_R → Option γ) : r1_Shr_L1_t s0 s1 s5_n s6 m0 next out = PassOf (r1_Shr_L1_t s0 s1 s5_n s6 m0 (fun d => some (.inl d)) (fun x => some (.inr x))) next out := by
  delta r1_Shr_L1_t; exact (Ps.nd (Ps.bd fun x7 => (Ps.nd Ps.nx Ps.no)) Ps.ou)
theorem r1_Shr_L1_ev (α : Type) (d : r1_Shr_L1_D) (next : r1_Shr_L1_D → Option α) (k : Exit → St → Option α) : ev Tryz.prog PzRE1 r1_Shr_M1_h 60 [0, 0, 1, 0, 1, 1, 1] ((codeAt (bodyOf Tryz.f102) [0, 0, 1, 0, 1, 1, 1]).getD .skip) ⟨mkS r1_Shr_L1_A (r1_Shr_L1_ofA d), mkH r1_Shr_L1_H (r1_Shr_L1_ofH d)⟩ (passK 0 r1_Shr_L1_N r1_Shr_L1_A r1_Shr_L1_H r1_Shr_L1_X (fun a m => next (r1_Shr_L1_to a m)) k) = PassOf (r1_Shr_L1_pass d) next fun x => k (r1_Shr_L1_fin x).1 (r1_Shr_L1_fin x).2 := by
  obtain ⟨s0, s1, s5_n, s6, m0⟩ := d
  exact (show _ = r1_Shr_L1_t s0 s1 s5_n s6 m0 next (fun x => k (r1_Shr_L1_fin x).1 (r1_Shr_L1_fin x).2) from by kernel_rfl).trans (r1_Shr_L1_t_eq s0 s1 s5_n s6 m0 _ _)
noncomputable def r1_Shr_L1 (d : r1_Shr_L1_D) : Option r1_Shr_L1_R := runs r1_Shr_L1_pass d
noncomputable def r1_Shr_L1_sp : CSpec := fun _ st k => reNorm 0 r1_Shr_L1_N r1_Shr_L1_A r1_Shr_L1_H st fun a m => outOf (r1_Shr_L1 (r1_Shr_L1_to a m)) fun v => k (.exit 0) ⟨[.any, .any, .any, .any, .any, .msl 0 0 v.1, .any, .any, .any, .any, .any, .any, .any, .any, .any, .any, .any, .any, .any, .any, .any, .any, .any, .any, .any, .any, .any, .any, .any, .any], [.row (.int .i64) v.2]⟩
theorem r1_Shr_L1_ok : SumOK Tryz.prog 0 (.loop ((codeAt (bodyOf Tryz.f102) [0, 0, 1, 0, 1, 1, 1]).getD .skip)) r1_Shr_L1_sp := (SumOK.loop PzRE1_ok mixed r1_Shr_M1_h_ok (show codeAt (bodyOf Tryz.f102) [0, 1, 0, 1, 1, 1] = some (.loop ((codeAt (bodyOf Tryz.f102) [0, 0, 1, 0, 1, 1, 1]).getD .skip)) from by kernel_rfl) (N := r1_Shr_L1_N) (Nx := r1_Shr_L1_X) (A := r1_Shr_L1_A) (Hs := r1_Shr_L1_H) (toD := r1_Shr_L1_to) (ofA := r1_Shr_L1_ofA) (ofH := r1_Shr_L1_ofH) (fun _ _ => rfl) (fun _ _ => rfl) (pass := r1_Shr_L1_pass) (fin := r1_Shr_L1_fin) 60 r1_Shr_L1_ev (steps r1_Shr_L1_pass)).mono fun α st k r h => by
  refine Eq.trans (congrArg (reNorm 0 r1_Shr_L1_N r1_Shr_L1_A r1_Shr_L1_H st) ?_) h
  funext a m
  exact outOf_congr fun x => rfl
noncomputable def r1_Shr_L1_h : Hints := r1_Shr_M1_h.add [0, 1, 0, 1, 1, 1] r1_Shr_L1_sp
theorem r1_Shr_L1_h_ok : r1_Shr_L1_h.OK Tryz.prog (bodyOf Tryz.f102) := r1_Shr_M1_h_ok.add (show codeAt (bodyOf Tryz.f102) [0, 1, 0, 1, 1, 1] = some (.loop ((codeAt (bodyOf Tryz.f102) [0, 0, 1, 0, 1, 1, 1]).getD .skip)) from by kernel_rfl) r1_Shr_L1_ok
abbrev r1_Shr_R : Type := (Int)
noncomputable def r1_Shr_t {γ : Type} (a0 : Int) (a1 : Int) (k : r1_Shr_R → Option γ) : Option γ := outOf (r1_Shr_M1 a1) fun (x8 : Int ⊕ Unit) => sumOf x8 (fun x9 => k (x9)) (fun x10 => outOf (r1_Shr_L1 (a0, a1, (64 : Nat), (0 : Int), List.replicate (64 : Nat) (0 : Int))) fun (x11 : (Nat × (List Int))) => outOf (ref_Make (List.take (Prod.fst x11) (List.drop (0 : Nat) (Prod.snd x11)))) fun (x12 : Int) => k (x12))
noncomputable def r1_Shr (a0 : Int) (a1 : Int) : Option r1_Shr_R := r1_Shr_t a0 a1 some
theorem r1_Shr_t_eq {γ : Type} (a0 : Int) (a1 : Int) (k : r1_Shr_R → Option γ) : r1_Shr_t a0 a1 k = outOf (r1_Shr a0 a1) k := by
  delta r1_Shr r1_Shr_t; exact (Tr.bd fun x8 => (Tr.cs (fun x9 => Tr.lf) (fun x10 => (Tr.bd fun x11 => (Tr.bd fun x12 => Tr.lf)))))
noncomputable def r1_Shr_sp : TX.Spec := specD [.val (.int .i64), .val (.int .i64)] [] fun _ a m k => match a, m with | ⟨a0, a1, _⟩, _ => outOf (r1_Shr a0 a1) fun v => k (.lit (.int .i64 v)) []
theorem r1_Shr_ev {α : Type} (a0 : Int) (a1 : Int) (k : Kont α) : evFun Tryz.prog PzRE1 (r1_Shr_L1_h) false Tryz.f102 (bodyOf Tryz.f102) 60 (mkS [.val (.int .i64), .val (.int .i64)] (a0, a1, ())) (mkH [] ()) k = outOf (r1_Shr a0 a1) fun v => k (.lit (.int .i64 v)) [] :=
  (show _ = r1_Shr_t a0 a1 (fun v => k (.lit (.int .i64 v)) []) from by kernel_rfl).trans (r1_Shr_t_eq a0 a1 _)
theorem r1_Shr_good : TX.Good Tryz.prog 102 r1_Shr_sp := good_form PzRE1_ok mixed Tryz.func102 (body_of rfl) (by kernel_rfl) false fun α a m k r h => by
  obtain ⟨a0, a1, _⟩ := a; obtain _ := m
  exact ⟨r1_Shr_L1_h, 60, r1_Shr_L1_h_ok, rfl, (r1_Shr_ev a0 a1 k).trans h⟩
def r1_Aligned_h0 : Hints := Hints.nil 0
theorem r1_Aligned_h0_ok : r1_Aligned_h0.OK Tryz.prog (bodyOf Tryz.f100) := Hints.nil_ok
def r1_Aligned_L1_A : List SD := [.val (.int .i64), .any, .any, .val (.int .i64), .any, .any, .any, .any, .any, .any, .any, .any, .any, .any, .any, .any, .any, .any, .any, .any, .any, .any, .any, .any, .any]
def r1_Aligned_L1_H : List HD := []
abbrev r1_Aligned_L1_D : Type := Int × Int
def r1_Aligned_L1_to (a : DenS r1_Aligned_L1_A) (m : DenH r1_Aligned_L1_H) : r1_Aligned_L1_D := (a.1, a.2.2.2.1)
def r1_Aligned_L1_ofA (d : r1_Aligned_L1_D) : DenS r1_Aligned_L1_A := match d with | (s0, s3) => (s0, (), (), s3, (), (), (), (), (), (), (), (), (), (), (), (), (), (), (), (), (), (), (), (), (), ())
def r1_Aligned_L1_ofH (d : r1_Aligned_L1_D) : DenH r1_Aligned_L1_H := match d with | (s0, s3) => ()
def r1_Aligned_L1_N : Norm := (⟨[0, 3], [], []⟩ : Go.TX.Norm)
def r1_Aligned_L1_X : Exit → Norm := fun e => match e with | .exit 0 => ⟨[0], [], []⟩ | .ret => ⟨[2], [], []⟩ | _ => ⟨[], [], []⟩
abbrev r1_Aligned_L1_R : Type := ((Int) ⊕ (Int))
def r1_Aligned_L1_fin (v : r1_Aligned_L1_R) : Exit × St := sumOf v (fun v => (.ret, ⟨[.any, .any, .lit (.int .i64 v), .any, .any, .any, .any, .any, .any, .any, .any, .any, .any, .any, .any, .any, .any, .any, .any, .any, .any, .any, .any, .any, .any], []⟩)) (fun v => ((.exit 0), ⟨[.lit (.int .i64 v), .any, .any, .any, .any, .any, .any, .any, .any, .any, .any, .any, .any, .any, .any, .any, .any, .any, .any, .any, .any, .any, .any, .any, .any], []⟩))
noncomputable def r1_Aligned_L1_t {γ : Type} (s0 : Int) (s3 : Int) (next : r1_Aligned_L1_D → Option γ) (out : r1_Aligned_L1_R → Option γ) : Option γ := cond (decide (s3 < (8 : Int))) (cond (IntKind.wrap IntKind.i64 (ibits BinOp.and IntKind.u64 (Int.fdiv (IntKind.wrap IntKind.u64 s0) (1 : Int)) (1 : Int)) == (0 : Int)) (cond (IntKind.wrap IntKind.i64 (ibits BinOp.and IntKind.u64 (Int.fdiv (IntKind.wrap IntKind.u64 s0) (2 : Int)) (1 : Int)) == (0 : Int)) (cond (IntKind.wrap IntKind.i64 (ibits BinOp.and IntKind.u64 (Int.fdiv (IntKind.wrap IntKind.u64 s0) (4 : Int)) (1 : Int)) == (0 : Int)) (out (.inl (s0))) (next (IntKind.wrap IntKind.i64 (s0 + (1 : Int)), IntKind.wrap IntKind.i64 (s3 + (1 : Int))))) (next (IntKind.wrap IntKind.i64 (s0 + (1 : Int)), IntKind.wrap IntKind.i64 (s3 + (1 : Int))))) (next (IntKind.wrap IntKind.i64 (s0 + (1 : Int)), IntKind.wrap IntKind.i64 (s3 + (1 : Int))))) (out (.inr (s0)))
noncomputable def r1_Aligned_L1_pass (d : r1_Aligned_L1_D) : Option (r1_Aligned_L1_D ⊕ r1_Aligned_L1_R) := r1_Aligned_L1_t d.1 d.2 (fun d => some (.inl d)) (fun x => some (.inr x))
theorem r1_Aligned_L1_t_eq {γ : Type} (s0 : Int) (s3 : Int) (next : r1_Aligned_L1_D → Option γ) (out : r1_Aligned_L1_R → Option γ) : r1_Aligned_L1_t s0 s3 next out = PassOf (r1_Aligned_L1_t s0 s3 (fun d => some (.inl d)) (fun x => some (.inr x))) next out := by
  delta r1_Aligned_L1_t; exact (Ps.nd (Ps.nd (Ps.nd (Ps.nd Ps.ou Ps.nx) Ps.nx) Ps.nx) Ps.ou)
theorem r1_Aligned_L1_ev (α : Type) (d : r1_Aligned_L1_D) (next : r1_Aligned_L1_D → Option α) (k : Exit → St → Option α) : ev Tryz.prog PzRE1 r1_Aligned_h0 60 [0, 0, 1, 0, 1] ((codeAt (bodyOf Tryz.f100) [0, 0, 1, 0, 1]).getD .skip) ⟨mkS r1_Aligned_L1_A (r1_Aligned_L1_ofA d), mkH r1_Aligned_L1_H (r1_Aligned_L1_ofH d)⟩ (passK 0 r1_Aligned_L1_N r1_Aligned_L1_A r1_Aligned_L1_H r1_Aligned_L1_X (fun a m => next (r1_Aligned_L1_to a m)) k) = PassOf (r1_Aligned_L1_pass d) next fun x => k (r1_Aligned_L1_fin x).1 (r1_Aligned_L1_fin x).2 := by
  obtain ⟨s0, s3⟩ := d
  exact (show _ = r1_Aligned_L1_t s0 s3 next (fun x => k (r1_Aligned_L1_fin x).1 (r1_Aligned_L1_fin x).2) from by kernel_rfl).trans (r1_Aligned_L1_t_eq s0 s3 _ _)
noncomputable def r1_Aligned_L1 (d : r1_Aligned_L1_D) : Option r1_Aligned_L1_R := runs r1_Aligned_L1_pass d
noncomputable def r1_Aligned_L1_sp : CSpec := fun _ st k => reNorm 0 r1_Aligned_L1_N r1_Aligned_L1_A r1_Aligned_L1_H st fun a m => outOf (r1_Aligned_L1 (r1_Aligned_L1_to a m)) fun v => sumOf v (fun v => k .ret ⟨[.any, .any, .lit (.int .i64 v), .any, .any, .any, .any, .any, .any, .any, .any, .any, .any, .any, .any, .any, .any, .any, .any, .any, .any, .any, .any, .any, .any], []⟩) (fun v => k (.exit 0) ⟨[.lit (.int .i64 v), .any, .any, .any, .any, .any, .any, .any, .any, .any, .any, .any, .any, .any, .any, .any, .any, .any, .any, .any, .any, .any, .any, .any, .any], []⟩)
theorem r1_Aligned_L1_ok : SumOK Tryz.prog 0 (.loop ((codeAt (bodyOf Tryz.f100) [0, 0, 1, 0, 1]).getD .skip)) r1_Aligned_L1_sp := (SumOK.loop PzRE1_ok mixed r1_Aligned_h0_ok (show codeAt (bodyOf Tryz.f100) [0, 1, 0, 1] = some (.loop ((codeAt (bodyOf Tryz.f100) [0, 0, 1, 0, 1]).getD .skip)) from by kernel_rfl) (N := r1_Aligned_L1_N) (Nx := r1_Aligned_L1_X) (A := r1_Aligned_L1_A) (Hs := r1_Aligned_L1_H) (toD := r1_Aligned_L1_to) (ofA := r1_Aligned_L1_ofA) (ofH := r1_Aligned_L1_ofH) (fun _ _ => rfl) (fun _ _ => rfl) (pass := r1_Aligned_L1_pass) (fin := r1_Aligned_L1_fin) 60 r1_Aligned_L1_ev (steps r1_Aligned_L1_pass)).mono fun α st k r h => by
  refine Eq.trans (congrArg (reNorm 0 r1_Aligned_L1_N r1_Aligned_L1_A r1_Aligned_L1_H st) ?_) h
  funext a m
  exact outOf_congr fun x => by rcases x with x | x <;> rfl
noncomputable def r1_Aligned_L1_h : Hints := r1_Aligned_h0.add [0, 1, 0, 1] r1_Aligned_L1_sp
theorem r1_Aligned_L1_h_ok : r1_Aligned_L1_h.OK Tryz.prog (bodyOf Tryz.f100) := r1_Aligned_h0_ok.add (show codeAt (bodyOf Tryz.f100) [0, 1, 0, 1] = some (.loop ((codeAt (bodyOf Tryz.f100) [0, 0, 1, 0, 1]).getD .skip)) from by kernel_rfl) r1_Aligned_L1_ok
abbrev r1_Aligned_R : Type := (Int)
noncomputable def r1_Aligned_t {γ : Type} (a0 : Int) (k : r1_Aligned_R → Option γ) : Option γ := outOf (r1_Aligned_L1 (a0, (0 : Int))) fun (x1 : Int ⊕ Int) => sumOf x1 (fun x2 => k (x2)) (fun x3 => k (x3))
noncomputable def r1_Aligned (a0 : Int) : Option r1_Aligned_R := r1_Aligned_t a0 some
theorem r1_Aligned_t_eq {γ : Type} (a0 : Int) (k : r1_Aligned_R → Option γ) : r1_Aligned_t a0 k = outOf (r1_Aligned a0) k := by
  delta r1_Aligned r1_Aligned_t; exact (Tr.bd fun x1 => (Tr.cs (fun x2 => Tr.lf) (fun x3 => Tr.lf)))
noncomputable def r1_Aligned_sp : TX.Spec := specD [.val (.int .i64)] [] fun _ a m k => match a, m with | ⟨a0, _⟩, _ => outOf (r1_Aligned a0) fun v => k (.lit (.int .i64 v)) []
theorem r1_Aligned_ev {α : Type} (a0 : Int) (k : Kont α) : evFun Tryz.prog PzRE1 (r1_Aligned_L1_h) false Tryz.f100 (bodyOf Tryz.f100) 60 (mkS [.val (.int .i64)] (a0, ())) (mkH [] ()) k = outOf (r1_Aligned a0) fun v => k (.lit (.int .i64 v)) [] :=
  (show _ = r1_Aligned_t a0 (fun v => k (.lit (.int .i64 v)) []) from by kernel_rfl).trans (r1_Aligned_t_eq a0 _)
theorem r1_Aligned_good : TX.Good Tryz.prog 100 r1_Aligned_sp := good_form PzRE1_ok mixed Tryz.func100 (body_of rfl) (by kernel_rfl) false fun α a m k r h => by
  obtain ⟨a0, _⟩ := a; obtain _ := m
  exact ⟨r1_Aligned_L1_h, 60, r1_Aligned_L1_h_ok, rfl, (r1_Aligned_ev a0 k).trans h⟩
def r4_Roll_h0 : Hints := Hints.nil 0
theorem r4_Roll_h0_ok : r4_Roll_h0.OK Tryz.prog (bodyOf Tryz.f33) := Hints.nil_ok
abbrev r4_Roll_R : Type := ((List Int) × Int)
noncomputable def r4_Roll_t {γ : Type} (a0 : (List Int)) (a1 : Int) (k : r4_Roll_R → Option γ) : Option γ := outOf (r4_Pick a0 a1) fun (x1 : (Int × Int)) => cond (Prod.snd x1 != (0 : Int)) (k (a0, Prod.snd x1)) (cond (decide ((0 : Int) ≤ (0 : Int) ∧ (0 : Int) ≤ IntKind.wrap IntKind.i64 (IntKind.wrap IntKind.i64 ((↑(List.length a0) : Int) - (1 : Int)) - a1) ∧ IntKind.wrap IntKind.i64 (IntKind.wrap IntKind.i64 ((↑(List.length a0) : Int) - (1 : Int)) - a1) ≤ (↑(List.length a0) : Int))) (cond (decide (List.length (List.take (Int.toNat (IntKind.wrap IntKind.i64 (IntKind.wrap IntKind.i64 ((↑(List.length a0) : Int) - (1 : Int)) - a1)) - (0 : Nat)) (List.drop (0 : Nat) a0)) ≤ (2147483648 : Nat))) (cond (decide ((0 : Int) ≤ IntKind.wrap IntKind.i64 (IntKind.wrap IntKind.i64 (IntKind.wrap IntKind.i64 ((↑(List.length a0) : Int) - (1 : Int)) - a1) + (1 : Int)) ∧ IntKind.wrap IntKind.i64 (IntKind.wrap IntKind.i64 (IntKind.wrap IntKind.i64 ((↑(List.length a0) : Int) - (1 : Int)) - a1) + (1 : Int)) ≤ (↑(List.length a0) : Int) ∧ (↑(List.length a0) : Int) ≤ (↑(List.length a0) : Int))) (cond (decide (List.length (List.take (Int.toNat (IntKind.wrap IntKind.i64 (IntKind.wrap IntKind.i64 ((↑(List.length a0) : Int) - (1 : Int)) - a1)) - (0 : Nat)) (List.drop (0 : Nat) a0)) + List.length (List.take (Int.toNat (↑(List.length a0) : Int) - Int.toNat (IntKind.wrap IntKind.i64 (IntKind.wrap IntKind.i64 (IntKind.wrap IntKind.i64 ((↑(List.length a0) : Int) - (1 : Int)) - a1) + (1 : Int)))) (List.drop (Int.toNat (IntKind.wrap IntKind.i64 (IntKind.wrap IntKind.i64 (IntKind.wrap IntKind.i64 ((↑(List.length a0) : Int) - (1 : Int)) - a1) + (1 : Int)))) a0)) ≤ (2147483648 : Nat))) (cond (decide (List.length (List.take (Int.toNat (IntKind.wrap IntKind.i64 (IntKind.wrap IntKind.i64 ((↑(List.length a0) : Int) - (1 : Int)) - a1)) - (0 : Nat)) (List.drop (0 : Nat) a0)) + List.length (List.take (Int.toNat (↑(List.length a0) : Int) - Int.toNat (IntKind.wrap IntKind.i64 (IntKind.wrap IntKind.i64 (IntKind.wrap IntKind.i64 ((↑(List.length a0) : Int) - (1 : Int)) - a1) + (1 : Int)))) (List.drop (Int.toNat (IntKind.wrap IntKind.i64 (IntKind.wrap IntKind.i64 (IntKind.wrap IntKind.i64 ((↑(List.length a0) : Int) - (1 : Int)) - a1) + (1 : Int)))) a0)) + List.length [Prod.fst x1] ≤ (2147483648 : Nat))) (k (List.take (List.length (List.take (Int.toNat (IntKind.wrap IntKind.i64 (IntKind.wrap IntKind.i64 ((↑(List.length a0) : Int) - (1 : Int)) - a1)) - (0 : Nat)) (List.drop (0 : Nat) a0)) + List.length (List.take (Int.toNat (↑(List.length a0) : Int) - Int.toNat (IntKind.wrap IntKind.i64 (IntKind.wrap IntKind.i64 (IntKind.wrap IntKind.i64 ((↑(List.length a0) : Int) - (1 : Int)) - a1) + (1 : Int)))) (List.drop (Int.toNat (IntKind.wrap IntKind.i64 (IntKind.wrap IntKind.i64 (IntKind.wrap IntKind.i64 ((↑(List.length a0) : Int) - (1 : Int)) - a1) + (1 : Int)))) a0)) + List.length [Prod.fst x1]) (List.drop (0 : Nat) (List.take (List.length (List.take (Int.toNat (IntKind.wrap IntKind.i64 (IntKind.wrap IntKind.i64 ((↑(List.length a0) : Int) - (1 : Int)) - a1)) - (0 : Nat)) (List.drop (0 : Nat) a0)) + List.length (List.take (Int.toNat (↑(List.length a0) : Int) - Int.toNat (IntKind.wrap IntKind.i64 (IntKind.wrap IntKind.i64 (IntKind.wrap IntKind.i64 ((↑(List.length a0) : Int) - (1 : Int)) - a1) + (1 : Int)))) (List.drop (Int.toNat (IntKind.wrap IntKind.i64 (IntKind.wrap IntKind.i64 (IntKind.wrap IntKind.i64 ((↑(List.length a0) : Int) - (1 : Int)) - a1) + (1 : Int)))) a0))) (List.drop (0 : Nat) (List.take (List.length (List.take (Int.toNat (IntKind.wrap IntKind.i64 (IntKind.wrap IntKind.i64 ((↑(List.length a0) : Int) - (1 : Int)) - a1)) - (0 : Nat)) (List.drop (0 : Nat) a0))) (List.drop (0 : Nat) (List.take (Int.toNat (IntKind.wrap IntKind.i64 (IntKind.wrap IntKind.i64 ((↑(List.length a0) : Int) - (1 : Int)) - a1)) - (0 : Nat)) (List.drop (0 : Nat) a0))) ++ List.take (Int.toNat (↑(List.length a0) : Int) - Int.toNat (IntKind.wrap IntKind.i64 (IntKind.wrap IntKind.i64 (IntKind.wrap IntKind.i64 ((↑(List.length a0) : Int) - (1 : Int)) - a1) + (1 : Int)))) (List.drop (Int.toNat (IntKind.wrap IntKind.i64 (IntKind.wrap IntKind.i64 (IntKind.wrap IntKind.i64 ((↑(List.length a0) : Int) - (1 : Int)) - a1) + (1 : Int)))) a0))) ++ [Prod.fst x1])), (0 : Int))) (none)) (none)) (none)) (none)) (none))
noncomputable def r4_Roll (a0 : (List Int)) (a1 : Int) : Option r4_Roll_R := r4_Roll_t a0 a1 some
theorem r4_Roll_t_eq {γ : Type} (a0 : (List Int)) (a1 : Int) (k : r4_Roll_R → Option γ) : r4_Roll_t a0 a1 k = outOf (r4_Roll a0 a1) k := by
  delta r4_Roll r4_Roll_t; exact (Tr.bd fun x1 => (Tr.nd Tr.lf (Tr.nd (Tr.nd (Tr.nd (Tr.nd (Tr.nd Tr.lf Tr.no) Tr.no) Tr.no) Tr.no) Tr.no)))
noncomputable def r4_Roll_sp : TX.Spec := specD [.val (.sl (.int .i64)), .val (.int .i64)] [] fun _ a m k => match a, m with | ⟨a0, a1, _⟩, _ => outOf (r4_Roll a0 a1) fun v => k (.tup [.sl (.int .i64) v.1 false, .lit (.int .i64 v.2)]) []
theorem r4_Roll_ev {α : Type} (a0 : (List Int)) (a1 : Int) (k : Kont α) : evFun Tryz.prog PzRE1 (r4_Roll_h0) false Tryz.f33 (bodyOf Tryz.f33) 60 (mkS [.val (.sl (.int .i64)), .val (.int .i64)] (a0, a1, ())) (mkH [] ()) k = outOf (r4_Roll a0 a1) fun v => k (.tup [.sl (.int .i64) v.1 false, .lit (.int .i64 v.2)]) [] :=
  (show _ = r4_Roll_t a0 a1 (fun v => k (.tup [.sl (.int .i64) v.1 false, .lit (.int .i64 v.2)]) []) from by kernel_rfl).trans (r4_Roll_t_eq a0 a1 _)
theorem r4_Roll_good : TX.Good Tryz.prog 33 r4_Roll_sp := good_form PzRE1_ok mixed Tryz.func33 (body_of rfl) (by kernel_rfl) false fun α a m k r h => by
  obtain ⟨a0, a1, _⟩ := a; obtain _ := m
  exact ⟨r4_Roll_h0, 60, r4_Roll_h0_ok, rfl, (r4_Roll_ev a0 a1 k).trans h⟩
def r7_Needs_h0 : Hints := Hints.nil 0
theorem r7_Needs_h0_ok : r7_Needs_h0.OK Tryz.prog (bodyOf Tryz.f15) := Hints.nil_ok
abbrev r7_Needs_R : Type := (Int)
noncomputable def r7_Needs_t {γ : Type} (a0 : Int) (k : r7_Needs_R → Option γ) : Option γ := outOf (r7_in a0) fun (x1 : Bool) => cond (!x1) (k ((0 : Int))) (cond (decide ((0 : Int) ≤ a0 ∧ a0 < (111 : Int))) (k (IntKind.wrap IntKind.i64 (IntKind.wrap IntKind.i64 (↑(UInt8.toNat (List.getD (Array.toList (ByteArray.data (bytesOf [48, 48, 49, 48, 48, 50, 50, 48, 49, 48, 48, 48, 49, 48, 48, 49, 49, 49, 49, 49, 50, 50, 51, 50, 50, 50, 50, 52, 52, 49, 49, 49, 48, 50, 50, 50, 50, 50, 50, 51, 51, 49, 49, 49, 49, 49, 49, 50, 50, 50, 50, 50, 49, 50, 50, 50, 50, 50, 50, 50, 49, 49, 51, 50, 50, 51, 51, 51, 49, 52, 50, 49, 49, 49, 49, 49, 50, 49, 50, 50, 51, 51, 51, 49, 50, 49, 49, 48, 48, 48, 50, 50, 49, 49, 50, 48, 48, 48, 48, 48, 48, 49, 48, 51, 48, 48, 48, 49, 49, 49, 48]))) (Int.toNat a0) (UInt8.ofNat (nat_lit 0)))) : Int) - (48 : Int)))) (none))
noncomputable def r7_Needs (a0 : Int) : Option r7_Needs_R := r7_Needs_t a0 some
theorem r7_Needs_t_eq {γ : Type} (a0 : Int) (k : r7_Needs_R → Option γ) : r7_Needs_t a0 k = outOf (r7_Needs a0) k := by
  delta r7_Needs r7_Needs_t; exact (Tr.bd fun x1 => (Tr.nd Tr.lf (Tr.nd Tr.lf Tr.no)))
noncomputable def r7_Needs_sp : TX.Spec := specD [.val (.int .i64)] [] fun _ a m k => match a, m with | ⟨a0, _⟩, _ => outOf (r7_Needs a0) fun v => k (.lit (.int .i64 v)) []
theorem r7_Needs_ev {α : Type} (a0 : Int) (k : Kont α) : evFun Tryz.prog PzRE1 (r7_Needs_h0) false Tryz.f15 (bodyOf Tryz.f15) 60 (mkS [.val (.int .i64)] (a0, ())) (mkH [] ()) k = outOf (r7_Needs a0) fun v => k (.lit (.int .i64 v)) [] :=
  (show _ = r7_Needs_t a0 (fun v => k (.lit (.int .i64 v)) []) from by kernel_rfl).trans (r7_Needs_t_eq a0 _)
theorem r7_Needs_good : TX.Good Tryz.prog 15 r7_Needs_sp := good_form PzRE1_ok mixed Tryz.func15 (body_of rfl) (by kernel_rfl) false fun α a m k r h => by
  obtain ⟨a0, _⟩ := a; obtain _ := m
  exact ⟨r7_Needs_h0, 60, r7_Needs_h0_ok, rfl, (r7_Needs_ev a0 k).trans h⟩
def r7_Leaves_h0 : Hints := Hints.nil 0
theorem r7_Leaves_h0_ok : r7_Leaves_h0.OK Tryz.prog (bodyOf Tryz.f19) := Hints.nil_ok
abbrev r7_Leaves_R : Type := (Int × Bool)
noncomputable def r7_Leaves_t {γ : Type} (a0 : Int) (k : r7_Leaves_R → Option γ) : Option γ := outOf (r7_in a0) fun (x1 : Bool) => cond (!x1) (k ((0 : Int), false)) (cond (decide ((0 : Int) ≤ a0 ∧ a0 < (111 : Int))) (cond ((↑(UInt8.toNat (List.getD (Array.toList (ByteArray.data (bytesOf [49, 48, 48, 63, 48, 48, 48, 48, 48, 48, 49, 49, 48, 49, 49, 63, 63, 63, 50, 48, 50, 51, 51, 49, 51, 52, 48, 52, 54, 63, 49, 48, 49, 49, 49, 49, 49, 49, 50, 49, 50, 49, 49, 49, 49, 49, 49, 49, 49, 49, 49, 49, 49, 49, 49, 49, 49, 49, 49, 49, 49, 49, 49, 50, 50, 50, 50, 50, 50, 50, 50, 49, 49, 49, 49, 49, 48, 49, 48, 48, 48, 48, 49, 48, 48, 48, 48, 48, 48, 48, 50, 50, 48, 48, 50, 49, 48, 48, 49, 49, 48, 48, 48, 48, 48, 48, 49, 48, 48, 48, 48]))) (Int.toNat a0) (UInt8.ofNat (nat_lit 0)))) : Int) == (63 : Int)) (k ((0 : Int), false)) (cond (decide ((0 : Int) ≤ a0 ∧ a0 < (111 : Int))) (k (IntKind.wrap IntKind.i64 (IntKind.wrap IntKind.i64 (↑(UInt8.toNat (List.getD (Array.toList (ByteArray.data (bytesOf [49, 48, 48, 63, 48, 48, 48, 48, 48, 48, 49, 49, 48, 49, 49, 63, 63, 63, 50, 48, 50, 51, 51, 49, 51, 52, 48, 52, 54, 63, 49, 48, 49, 49, 49, 49, 49, 49, 50, 49, 50, 49, 49, 49, 49, 49, 49, 49, 49, 49, 49, 49, 49, 49, 49, 49, 49, 49, 49, 49, 49, 49, 49, 50, 50, 50, 50, 50, 50, 50, 50, 49, 49, 49, 49, 49, 48, 49, 48, 48, 48, 48, 49, 48, 48, 48, 48, 48, 48, 48, 50, 50, 48, 48, 50, 49, 48, 48, 49, 49, 48, 48, 48, 48, 48, 48, 49, 48, 48, 48, 48]))) (Int.toNat a0) (UInt8.ofNat (nat_lit 0)))) : Int) - (48 : Int)), true)) (none))) (none))
noncomputable def r7_Leaves (a0 : Int) : Option r7_Leaves_R := r7_Leaves_t a0 some
theorem r7_Leaves_t_eq {γ : Type} (a0 : Int) (k : r7_Leaves_R → Option γ) : r7_Leaves_t a0 k = outOf (r7_Leaves a0) k := by
  delta r7_Leaves r7_Leaves_t; exact (Tr.bd fun x1 => (Tr.nd Tr.lf (Tr.nd (Tr.nd Tr.lf (Tr.nd Tr.lf Tr.no)) Tr.no)))
noncomputable def r7_Leaves_sp : TX.Spec := specD [.val (.int .i64)] [] fun _ a m k => match a, m with | ⟨a0, _⟩, _ => outOf (r7_Leaves a0) fun v => k (.tup [.lit (.int .i64 v.1), .lit (.bool v.2)]) []
theorem r7_Leaves_ev {α : Type} (a0 : Int) (k : Kont α) : evFun Tryz.prog PzRE1 (r7_Leaves_h0) false Tryz.f19 (bodyOf Tryz.f19) 60 (mkS [.val (.int .i64)] (a0, ())) (mkH [] ()) k = outOf (r7_Leaves a0) fun v => k (.tup [.lit (.int .i64 v.1), .lit (.bool v.2)]) [] :=
  (show _ = r7_Leaves_t a0 (fun v => k (.tup [.lit (.int .i64 v.1), .lit (.bool v.2)]) []) from by kernel_rfl).trans (r7_Leaves_t_eq a0 _)
theorem r7_Leaves_good : TX.Good Tryz.prog 19 r7_Leaves_sp := good_form PzRE1_ok mixed Tryz.func19 (body_of rfl) (by kernel_rfl) false fun α a m k r h => by
  obtain ⟨a0, _⟩ := a; obtain _ := m
  exact ⟨r7_Leaves_h0, 60, r7_Leaves_h0_ok, rfl, (r7_Leaves_ev a0 k).trans h⟩
def r7_Group_h0 : Hints := Hints.nil 0
theorem r7_Group_h0_ok : r7_Group_h0.OK Tryz.prog (bodyOf Tryz.f14) := Hints.nil_ok
abbrev r7_Group_R : Type := (Int)
noncomputable def r7_Group_t {γ : Type} (a0 : Int) (k : r7_Group_R → Option γ) : Option γ := outOf (r7_in a0) fun (x1 : Bool) => cond (!x1) (k ((-1 : Int))) (cond (decide ((0 : Int) ≤ a0 ∧ a0 < (111 : Int))) (k (IntKind.wrap IntKind.i64 (IntKind.wrap IntKind.i64 (↑(UInt8.toNat (List.getD (Array.toList (ByteArray.data (bytesOf [48, 48, 48, 48, 48, 48, 48, 48, 48, 48, 48, 48, 48, 48, 48, 48, 48, 48, 49, 49, 49, 49, 49, 49, 49, 49, 49, 49, 49, 49, 49, 49, 49, 49, 49, 49, 49, 49, 49, 49, 49, 49, 49, 49, 49, 49, 49, 49, 49, 49, 49, 49, 49, 49, 49, 49, 49, 49, 49, 49, 49, 49, 49, 49, 49, 49, 49, 49, 49, 49, 49, 49, 49, 49, 49, 50, 50, 50, 50, 50, 50, 50, 50, 51, 51, 51, 51, 51, 51, 52, 52, 52, 52, 52, 52, 53, 53, 53, 54, 54, 54, 54, 54, 54, 55, 55, 55, 55, 55, 55, 55]))) (Int.toNat a0) (UInt8.ofNat (nat_lit 0)))) : Int) - (48 : Int)))) (none))
noncomputable def r7_Group (a0 : Int) : Option r7_Group_R := r7_Group_t a0 some
theorem r7_Group_t_eq {γ : Type} (a0 : Int) (k : r7_Group_R → Option γ) : r7_Group_t a0 k = outOf (r7_Group a0) k := by
  delta r7_Group r7_Group_t; exact (Tr.bd fun x1 => (Tr.nd Tr.lf (Tr.nd Tr.lf Tr.no)))
noncomputable def r7_Group_sp : TX.Spec := specD [.val (.int .i64)] [] fun _ a m k => match a, m with | ⟨a0, _⟩, _ => outOf (r7_Group a0) fun v => k (.lit (.int .i64 v)) []
theorem r7_Group_ev {α : Type} (a0 : Int) (k : Kont α) : evFun Tryz.prog PzRE1 (r7_Group_h0) false Tryz.f14 (bodyOf Tryz.f14) 60 (mkS [.val (.int .i64)] (a0, ())) (mkH [] ()) k = outOf (r7_Group a0) fun v => k (.lit (.int .i64 v)) [] :=
  (show _ = r7_Group_t a0 (fun v => k (.lit (.int .i64 v)) []) from by kernel_rfl).trans (r7_Group_t_eq a0 _)
theorem r7_Group_good : TX.Good Tryz.prog 14 r7_Group_sp := good_form PzRE1_ok mixed Tryz.func14 (body_of rfl) (by kernel_rfl) false fun α a m k r h => by
  obtain ⟨a0, _⟩ := a; obtain _ := m
  exact ⟨r7_Group_h0, 60, r7_Group_h0_ok, rfl, (r7_Group_ev a0 k).trans h⟩
noncomputable def PzRE2 : Env := PzRE1.add 137 true ref_bits_sp |>.add 138 true ref_make2_sp |>.add 103 true ref_Ult_sp |>.add 132 true r1_Symm_sp |>.add 101 true r1_Shl_sp |>.add 102 true r1_Shr_sp |>.add 100 true r1_Aligned_sp |>.add 33 true r4_Roll_sp |>.add 15 true r7_Needs_sp |>.add 19 true r7_Leaves_sp |>.add 14 true r7_Group_sp
theorem PzRE2_ok : PzRE2.OK Tryz.prog := (((((((((((PzRE1_ok).add_ok ref_bits_good).add_ok ref_make2_good).add_ok ref_Ult_good).add_ok r1_Symm_good).add_ok r1_Shl_good).add_ok r1_Shr_good).add_ok r1_Aligned_good).add_ok r4_Roll_good).add_ok r7_Needs_good).add_ok r7_Leaves_good).add_ok r7_Group_good
def ref_Add_h0 : Hints := Hints.nil 0
theorem ref_Add_h0_ok : ref_Add_h0.OK Tryz.prog (bodyOf Tryz.f112) := Hints.nil_ok
def ref_Add_L1_A : List SD := [.any, .any, .any, .any, .loc 0 0 0, .val (.sl (.int .i64)), .val (.sl (.int .i64)), .rowz 1, .val (.int .i64), .val (.int .i64), .any, .any, .any, .any, .any, .any, .any, .any, .any, .any, .any, .any, .any, .any, .any, .any, .any, .any, .any, .any, .any, .any, .any, .any, .any, .any, .any, .any, .any, .any]
def ref_Add_L1_H : List HD := [.box [.val (.int .i64), .val (.int .i64)], .row (.int .i64)]
abbrev ref_Add_L1_D : Type := (List Int) × (List Int) × Nat × Int × Int × Int × Int × (List Int)
def ref_Add_L1_to (a : DenS ref_Add_L1_A) (m : DenH ref_Add_L1_H) : ref_Add_L1_D := (a.2.2.2.2.2.1, a.2.2.2.2.2.2.1, a.2.2.2.2.2.2.2.1, a.2.2.2.2.2.2.2.2.1, a.2.2.2.2.2.2.2.2.2.1, m.1.1, m.1.2.1, m.2.1)
def ref_Add_L1_ofA (d : ref_Add_L1_D) : DenS ref_Add_L1_A := match d with | (s5, s6, s7_n, s8, s9, m0_0, m0_1, m1) => ((), (), (), (), (), s5, s6, s7_n, s8, s9, (), (), (), (), (), (), (), (), (), (), (), (), (), (), (), (), (), (), (), (), (), (), (), (), (), (), (), (), (), (), ())
def ref_Add_L1_ofH (d : ref_Add_L1_D) : DenH ref_Add_L1_H := match d with | (s5, s6, s7_n, s8, s9, m0_0, m0_1, m1) => ((m0_0, m0_1, ()), m1, ())
def ref_Add_L1_N : Norm := (⟨[4, 5, 6, 7, 8, 9], [], []⟩ : Go.TX.Norm)
def ref_Add_L1_X : Exit → Norm := fun e => match e with | .exit 0 => ⟨[4, 7], [], []⟩ | _ => ⟨[], [], []⟩
abbrev ref_Add_L1_R : Type := (Nat × Int × Int × (List Int))
def ref_Add_L1_fin (v : ref_Add_L1_R) : Exit × St := ((.exit 0), ⟨[.any, .any, .any, .any, .ptr 0 0 0, .any, .any, .msl 1 0 v.1, .any, .any, .any, .any, .any, .any, .any, .any, .any, .any, .any, .any, .any, .any, .any, .any, .any, .any, .any, .any, .any, .any, .any, .any, .any, .any, .any, .any, .any, .any, .any, .any], [.box [.lit (.int .i64 v.2.1), .lit (.int .i64 v.2.2.1)], .row (.int .i64) v.2.2.2]⟩)
noncomputable def ref_Add_L1_t {γ : Type} (s5 : (List Int)) (s6 : (List Int)) (s7_n : Nat) (s8 : Int) (s9 : Int) (m0_0 : Int) (m0_1 : Int) (m1 : (List Int)) (next : ref_Add_L1_D → Option γ) (out : ref_Add_L1_R → Option γ) : Option γ := cond (decide (s9 < (128 : Int))) (cond (decide ((0 : Int) ≤ s9 ∧ s9 < (↑(List.length s5) : Int))) (cond (decide ((0 : Int) ≤ s9 ∧ s9 < (↑(List.length s6) : Int))) (cond (decide ((0 : Int) ≤ s9 ∧ s9 < (↑s7_n : Int))) (next (s5, s6, s7_n, IntKind.wrap IntKind.i64 (Int.tdiv (IntKind.wrap IntKind.i64 (IntKind.wrap IntKind.i64 (List.getD s5 (Int.toNat s9) (0 : Int) + List.getD s6 (Int.toNat s9) (0 : Int)) + s8)) (2 : Int)), IntKind.wrap IntKind.i64 (s9 + (1 : Int)), m0_0, m0_1, List.set m1 ((0 : Nat) + Int.toNat s9) (Int.tmod (IntKind.wrap IntKind.i64 (IntKind.wrap IntKind.i64 (List.getD s5 (Int.toNat s9) (0 : Int) + List.getD s6 (Int.toNat s9) (0 : Int)) + s8)) (2 : Int)))) (none)) (none)) (none)) (out (s7_n, m0_0, m0_1, m1))
noncomputable def ref_Add_L1_pass (d : ref_Add_L1_D) : Option (ref_Add_L1_D ⊕ ref_Add_L1_R) := ref_Add_L1_t d.1 d.2.1 d.2.2.1 d.2.2.2.1 d.2.2.2.2.1 d.2.2.2.2.2.1 d.2.2.2.2.2.2.1 d.2.2.2.2.2.2.2 (fun d => some (.inl d)) (fun x => some (.inr x))
theorem ref_Add_L1_t_eq {γ : Type} (s5 : (List Int)) (s6 : (List Int)) (s7_n : Nat) (s8 : Int) (s9 : Int) (m0_0 : Int) (m0_1 : Int) (m1 : (List Int)) (next : ref_Add_L1_D → Option γ) (out : ref_Add_L1_R → Option γ) : ref_Add_L1_t s5 s6 s7_n s8 s9 m0_0 m0_1 m1 next out = PassOf (ref_Add_L1_t s5 s6 s7_n s8 s9 m0_0 m0_1 m1 (fun d => some (.inl d)) (fun x => some (.inr x))) next out := by
  delta ref_Add_L1_t; exact (Ps.nd (Ps.nd (Ps.nd (Ps.nd Ps.nx Ps.no) Ps.no) Ps.no) Ps.ou)
theorem ref_Add_L1_ev (α : Type) (d : ref_Add_L1_D) (next : ref_Add_L1_D → Option α) (k : Exit → St → Option α) : ev Tryz.prog PzRE2 ref_Add_h0 60 [0, 0, 1, 0, 1, 1, 1, 1, 1] ((codeAt (bodyOf Tryz.f112) [0, 0, 1, 0, 1, 1, 1, 1, 1]).getD .skip) ⟨mkS ref_Add_L1_A (ref_Add_L1_ofA d), mkH ref_Add_L1_H (ref_Add_L1_ofH d)⟩ (passK 0 ref_Add_L1_N ref_Add_L1_A ref_Add_L1_H ref_Add_L1_X (fun a m => next (ref_Add_L1_to a m)) k) = PassOf (ref_Add_L1_pass d) next fun x => k (ref_Add_L1_fin x).1 (ref_Add_L1_fin x).2 := by
  obtain ⟨s5, s6, s7_n, s8, s9, m0_0, m0_1, m1⟩ := d
  exact (show _ = ref_Add_L1_t s5 s6 s7_n s8 s9 m0_0 m0_1 m1 next (fun x => k (ref_Add_L1_fin x).1 (ref_Add_L1_fin x).2) from by kernel_rfl).trans (ref_Add_L1_t_eq s5 s6 s7_n s8 s9 m0_0 m0_1 m1 _ _)
noncomputable def ref_Add_L1 (d : ref_Add_L1_D) : Option ref_Add_L1_R := runs ref_Add_L1_pass d
noncomputable def ref_Add_L1_sp : CSpec := fun _ st k => reNorm 0 ref_Add_L1_N ref_Add_L1_A ref_Add_L1_H st fun a m => outOf (ref_Add_L1 (ref_Add_L1_to a m)) fun v => k (.exit 0) ⟨[.any, .any, .any, .any, .ptr 0 0 0, .any, .any, .msl 1 0 v.1, .any, .any, .any, .any, .any, .any, .any, .any, .any, .any, .any, .any, .any, .any, .any, .any, .any, .any, .any, .any, .any, .any, .any, .any, .any, .any, .any, .any, .any, .any, .any, .any], [.box [.lit (.int .i64 v.2.1), .lit (.int .i64 v.2.2.1)], .row (.int .i64) v.2.2.2]⟩
theorem ref_Add_L1_ok : SumOK Tryz.prog 0 (.loop ((codeAt (bodyOf Tryz.f112) [0, 0, 1, 0, 1, 1, 1, 1, 1]).getD .skip)) ref_Add_L1_sp := (SumOK.loop PzRE2_ok mixed ref_Add_h0_ok (show codeAt (bodyOf Tryz.f112) [0, 1, 0, 1, 1, 1, 1, 1] = some (.loop ((codeAt (bodyOf Tryz.f112) [0, 0, 1, 0, 1, 1, 1, 1, 1]).getD .skip)) from by kernel_rfl) (N := ref_Add_L1_N) (Nx := ref_Add_L1_X) (A := ref_Add_L1_A) (Hs := ref_Add_L1_H) (toD := ref_Add_L1_to) (ofA := ref_Add_L1_ofA) (ofH := ref_Add_L1_ofH) (fun _ _ => rfl) (fun _ _ => rfl) (pass := ref_Add_L1_pass) (fin := ref_Add_L1_fin) 60 ref_Add_L1_ev (steps ref_Add_L1_pass)).mono fun α st k r h => by
  refine Eq.trans (congrArg (reNorm 0 ref_Add_L1_N ref_Add_L1_A ref_Add_L1_H st) ?_) h
  funext a m
  exact outOf_congr fun x => rfl
noncomputable def ref_Add_L1_h : Hints := ref_Add_h0.add [0, 1, 0, 1, 1, 1, 1, 1] ref_Add_L1_sp
theorem ref_Add_L1_h_ok : ref_Add_L1_h.OK Tryz.prog (bodyOf Tryz.f112) := ref_Add_h0_ok.add (show codeAt (bodyOf Tryz.f112) [0, 1, 0, 1, 1, 1, 1, 1] = some (.loop ((codeAt (bodyOf Tryz.f112) [0, 0, 1, 0, 1, 1, 1, 1, 1]).getD .skip)) from by kernel_rfl) ref_Add_L1_ok
abbrev ref_Add_R : Type := (Int × Int)
noncomputable def ref_Add_t {γ : Type} (a0_0 : Int) (a0_1 : Int) (a1_0 : Int) (a1_1 : Int) (k : ref_Add_R → Option γ) : Option γ := outOf (ref_bits a0_0 a0_1) fun (x5 : (List Int)) => outOf (ref_bits a1_0 a1_1) fun (x6 : (List Int)) => outOf (ref_Add_L1 (x5, x6, (128 : Nat), (0 : Int), (0 : Int), (0 : Int), (0 : Int), List.replicate (128 : Nat) (0 : Int))) fun (x7 : (Nat × (Int × (Int × (List Int))))) => outOf (ref_make2 (List.take (Prod.fst x7) (List.drop (0 : Nat) (Prod.snd (Prod.snd (Prod.snd x7)))))) fun (x8 : (Int × Int)) => k (Prod.fst x8, Prod.snd x8)
noncomputable def ref_Add (a0_0 : Int) (a0_1 : Int) (a1_0 : Int) (a1_1 : Int) : Option ref_Add_R := ref_Add_t a0_0 a0_1 a1_0 a1_1 some
theorem ref_Add_t_eq {γ : Type} (a0_0 : Int) (a0_1 : Int) (a1_0 : Int) (a1_1 : Int) (k : ref_Add_R → Option γ) : ref_Add_t a0_0 a0_1 a1_0 a1_1 k = outOf (ref_Add a0_0 a0_1 a1_0 a1_1) k := by
  delta ref_Add ref_Add_t; exact (Tr.bd fun x5 => (Tr.bd fun x6 => (Tr.bd fun x7 => (Tr.bd fun x8 => Tr.lf))))
noncomputable def ref_Add_sp : TX.Spec := specD [.agg (.pair (.int .i64) (.int .i64)), .agg (.pair (.int .i64) (.int .i64))] [] fun _ a m k => match a, m with | ⟨⟨a0_0, a0_1⟩, ⟨a1_0, a1_1⟩, _⟩, _ => outOf (ref_Add a0_0 a0_1 a1_0 a1_1) fun v => k (.agg [.lit (.int .i64 v.1), .lit (.int .i64 v.2)]) []
theorem ref_Add_ev {α : Type} (a0_0 : Int) (a0_1 : Int) (a1_0 : Int) (a1_1 : Int) (k : Kont α) : evFun Tryz.prog PzRE2 (ref_Add_L1_h) false Tryz.f112 (bodyOf Tryz.f112) 60 (mkS [.agg (.pair (.int .i64) (.int .i64)), .agg (.pair (.int .i64) (.int .i64))] ((a0_0, a0_1), (a1_0, a1_1), ())) (mkH [] ()) k = outOf (ref_Add a0_0 a0_1 a1_0 a1_1) fun v => k (.agg [.lit (.int .i64 v.1), .lit (.int .i64 v.2)]) [] :=
  (show _ = ref_Add_t a0_0 a0_1 a1_0 a1_1 (fun v => k (.agg [.lit (.int .i64 v.1), .lit (.int .i64 v.2)]) []) from by kernel_rfl).trans (ref_Add_t_eq a0_0 a0_1 a1_0 a1_1 _)
theorem ref_Add_good : TX.Good Tryz.prog 112 ref_Add_sp := good_form PzRE2_ok mixed Tryz.func112 (body_of rfl) (by kernel_rfl) false fun α a m k r h => by
  obtain ⟨⟨a0_0, a0_1⟩, ⟨a1_0, a1_1⟩, _⟩ := a; obtain _ := m
  exact ⟨ref_Add_L1_h, 60, ref_Add_L1_h_ok, rfl, (ref_Add_ev a0_0 a0_1 a1_0 a1_1 k).trans h⟩
def ref_less_h0 : Hints := Hints.nil 0
theorem ref_less_h0_ok : ref_less_h0.OK Tryz.prog (bodyOf Tryz.f142) := Hints.nil_ok
abbrev ref_less_R : Type := (Bool)
noncomputable def ref_less_t {γ : Type} (a0_0 : Int) (a0_1 : Int) (a1_0 : Int) (a1_1 : Int) (k : ref_less_R → Option γ) : Option γ := outOf (ref_Ult a0_1 a1_1) fun (x1 : Bool) => cond x1 (k (true)) (cond (a0_1 == a1_1) (outOf (ref_Ult a0_0 a1_0) fun (x2 : Bool) => k (x2)) (k (false)))
noncomputable def ref_less (a0_0 : Int) (a0_1 : Int) (a1_0 : Int) (a1_1 : Int) : Option ref_less_R := ref_less_t a0_0 a0_1 a1_0 a1_1 some
theorem ref_less_t_eq {γ : Type} (a0_0 : Int) (a0_1 : Int) (a1_0 : Int) (a1_1 : Int) (k : ref_less_R → Option γ) : ref_less_t a0_0 a0_1 a1_0 a1_1 k = outOf (ref_less a0_0 a0_1 a1_0 a1_1) k := by
  delta ref_less ref_less_t; exact (Tr.bd fun x1 => (Tr.nd Tr.lf (Tr.nd (Tr.bd fun x2 => Tr.lf) Tr.lf)))
noncomputable def ref_less_sp : TX.Spec := specD [.agg (.pair (.int .i64) (.int .i64)), .agg (.pair (.int .i64) (.int .i64))] [] fun _ a m k => match a, m with | ⟨⟨a0_0, a0_1⟩, ⟨a1_0, a1_1⟩, _⟩, _ => outOf (ref_less a0_0 a0_1 a1_0 a1_1) fun v => k (.lit (.bool v)) []
theorem ref_less_ev {α : Type} (a0_0 : Int) (a0_1 : Int) (a1_0 : Int) (a1_1 : Int) (k : Kont α) : evFun Tryz.prog PzRE2 (ref_less_h0) false Tryz.f142 (bodyOf Tryz.f142) 60 (mkS [.agg (.pair (.int .i64) (.int .i64)), .agg (.pair (.int .i64) (.int .i64))] ((a0_0, a0_1), (a1_0, a1_1), ())) (mkH [] ()) k = outOf (ref_less a0_0 a0_1 a1_0 a1_1) fun v => k (.lit (.bool v)) [] :=
  (show _ = ref_less_t a0_0 a0_1 a1_0 a1_1 (fun v => k (.lit (.bool v)) []) from by kernel_rfl).trans (ref_less_t_eq a0_0 a0_1 a1_0 a1_1 _)
theorem ref_less_good : TX.Good Tryz.prog 142 ref_less_sp := good_form PzRE2_ok mixed Tryz.func142 (body_of rfl) (by kernel_rfl) false fun α a m k r h => by
  obtain ⟨⟨a0_0, a0_1⟩, ⟨a1_0, a1_1⟩, _⟩ := a; obtain _ := m
  exact ⟨ref_less_h0, 60, ref_less_h0_ok, rfl, (ref_less_ev a0_0 a0_1 a1_0 a1_1 k).trans h⟩
def r1_Floor_h0 : Hints := Hints.nil 0
theorem r1_Floor_h0_ok : r1_Floor_h0.OK Tryz.prog (bodyOf Tryz.f98) := Hints.nil_ok
abbrev r1_Floor_R : Type := (Int × Int × Int)
noncomputable def r1_Floor_t {γ : Type} (a0 : Int) (a1 : Int) (k : r1_Floor_R → Option γ) : Option γ := outOf (r1_Symm a0 a1) fun (x1 : (Int × (Int × Int))) => cond (Prod.snd (Prod.snd x1) == (0 : Int)) (cond (Prod.fst (Prod.snd x1) != (0 : Int)) (cond (!decide (Prod.fst (Prod.snd x1) < (0 : Int)) == decide (a1 < (0 : Int))) (k (IntKind.wrap IntKind.i64 (Prod.fst x1 - (1 : Int)), IntKind.wrap IntKind.i64 (Prod.fst (Prod.snd x1) + a1), (0 : Int))) (k (Prod.fst x1, Prod.fst (Prod.snd x1), Prod.snd (Prod.snd x1)))) (k (Prod.fst x1, Prod.fst (Prod.snd x1), Prod.snd (Prod.snd x1)))) (k (Prod.fst x1, Prod.fst (Prod.snd x1), Prod.snd (Prod.snd x1)))
noncomputable def r1_Floor (a0 : Int) (a1 : Int) : Option r1_Floor_R := r1_Floor_t a0 a1 some
theorem r1_Floor_t_eq {γ : Type} (a0 : Int) (a1 : Int) (k : r1_Floor_R → Option γ) : r1_Floor_t a0 a1 k = outOf (r1_Floor a0 a1) k := by
  delta r1_Floor r1_Floor_t; exact (Tr.bd fun x1 => (Tr.nd (Tr.nd (Tr.nd Tr.lf Tr.lf) Tr.lf) Tr.lf))
noncomputable def r1_Floor_sp : TX.Spec := specD [.val (.int .i64), .val (.int .i64)] [] fun _ a m k => match a, m with | ⟨a0, a1, _⟩, _ => outOf (r1_Floor a0 a1) fun v => k (.tup [.lit (.int .i64 v.1), .lit (.int .i64 v.2.1), .lit (.int .i64 v.2.2)]) []
theorem r1_Floor_ev {α : Type} (a0 : Int) (a1 : Int) (k : Kont α) : evFun Tryz.prog PzRE2 (r1_Floor_h0) false Tryz.f98 (bodyOf Tryz.f98) 60 (mkS [.val (.int .i64), .val (.int .i64)] (a0, a1, ())) (mkH [] ()) k = outOf (r1_Floor a0 a1) fun v => k (.tup [.lit (.int .i64 v.1), .lit (.int .i64 v.2.1), .lit (.int .i64 v.2.2)]) [] :=
  (show _ = r1_Floor_t a0 a1 (fun v => k (.tup [.lit (.int .i64 v.1), .lit (.int .i64 v.2.1), .lit (.int .i64 v.2.2)]) []) from by kernel_rfl).trans (r1_Floor_t_eq a0 a1 _)
theorem r1_Floor_good : TX.Good Tryz.prog 98 r1_Floor_sp := good_form PzRE2_ok mixed Tryz.func98 (body_of rfl) (by kernel_rfl) false fun α a m k r h => by
  obtain ⟨a0, a1, _⟩ := a; obtain _ := m
  exact ⟨r1_Floor_h0, 60, r1_Floor_h0_ok, rfl, (r1_Floor_ev a0 a1 k).trans h⟩
def r1_Within_h0 : Hints := Hints.nil 0
theorem r1_Within_h0_ok : r1_Within_h0.OK Tryz.prog (bodyOf Tryz.f105) := Hints.nil_ok
abbrev r1_Within_R : Type := (Bool)
noncomputable def r1_Within_t {γ : Type} (a0 : Int) (a1 : Int) (a2 : Int) (k : r1_Within_R → Option γ) : Option γ := outOf (ref_Ult (IntKind.wrap IntKind.i64 (a0 - a1)) (IntKind.wrap IntKind.i64 (a2 - a1))) fun (x1 : Bool) => k (x1)
noncomputable def r1_Within (a0 : Int) (a1 : Int) (a2 : Int) : Option r1_Within_R := r1_Within_t a0 a1 a2 some
theorem r1_Within_t_eq {γ : Type} (a0 : Int) (a1 : Int) (a2 : Int) (k : r1_Within_R → Option γ) : r1_Within_t a0 a1 a2 k = outOf (r1_Within a0 a1 a2) k := by
  delta r1_Within r1_Within_t; exact (Tr.bd fun x1 => Tr.lf)
noncomputable def r1_Within_sp : TX.Spec := specD [.val (.int .i64), .val (.int .i64), .val (.int .i64)] [] fun _ a m k => match a, m with | ⟨a0, a1, a2, _⟩, _ => outOf (r1_Within a0 a1 a2) fun v => k (.lit (.bool v)) []
theorem r1_Within_ev {α : Type} (a0 : Int) (a1 : Int) (a2 : Int) (k : Kont α) : evFun Tryz.prog PzRE2 (r1_Within_h0) false Tryz.f105 (bodyOf Tryz.f105) 60 (mkS [.val (.int .i64), .val (.int .i64), .val (.int .i64)] (a0, a1, a2, ())) (mkH [] ()) k = outOf (r1_Within a0 a1 a2) fun v => k (.lit (.bool v)) [] :=
  (show _ = r1_Within_t a0 a1 a2 (fun v => k (.lit (.bool v)) []) from by kernel_rfl).trans (r1_Within_t_eq a0 a1 a2 _)
theorem r1_Within_good : TX.Good Tryz.prog 105 r1_Within_sp := good_form PzRE2_ok mixed Tryz.func105 (body_of rfl) (by kernel_rfl) false fun α a m k r h => by
  obtain ⟨a0, a1, a2, _⟩ := a; obtain _ := m
  exact ⟨r1_Within_h0, 60, r1_Within_h0_ok, rfl, (r1_Within_ev a0 a1 a2 k).trans h⟩
def r9_special_h0 : Hints := Hints.nil 0
theorem r9_special_h0_ok : r9_special_h0.OK Tryz.prog (bodyOf Tryz.f16) := Hints.nil_ok
abbrev r9_special_R : Type := ((List Int) × Int)
noncomputable def r9_special_t {γ : Type} (a0 : Int) (a1 : (List Int)) (k : r9_special_R → Option γ) : Option γ := cond (a0 == (32 : Int)) (outOf (r4_Push a1 (64 : Int) [(↑(List.length a1) : Int)]) fun (x1 : ((List Int) × Int)) => k (Prod.fst x1, Prod.snd x1)) (cond (decide ((1 : Int) > (↑(List.length a1) : Int))) (cond (a0 == (30 : Int)) (none) (cond (a0 == (31 : Int)) (none) (none))) (cond (decide ((0 : Int) ≤ (0 : Int) ∧ (0 : Int) ≤ IntKind.wrap IntKind.i64 ((↑(List.length a1) : Int) - (1 : Int)) ∧ IntKind.wrap IntKind.i64 ((↑(List.length a1) : Int) - (1 : Int)) ≤ (↑(List.length a1) : Int))) (cond (decide (List.length (List.take (Int.toNat (IntKind.wrap IntKind.i64 ((↑(List.length a1) : Int) - (1 : Int))) - (0 : Nat)) (List.drop (0 : Nat) a1)) ≤ (2147483648 : Nat))) (cond (decide ((0 : Int) ≤ IntKind.wrap IntKind.i64 ((↑(List.length a1) : Int) - (1 : Int)) ∧ IntKind.wrap IntKind.i64 ((↑(List.length a1) : Int) - (1 : Int)) ≤ (↑(List.length a1) : Int) ∧ (↑(List.length a1) : Int) ≤ (↑(List.length a1) : Int))) (cond (decide (List.length (List.take (Int.toNat (↑(List.length a1) : Int) - Int.toNat (IntKind.wrap IntKind.i64 ((↑(List.length a1) : Int) - (1 : Int)))) (List.drop (Int.toNat (IntKind.wrap IntKind.i64 ((↑(List.length a1) : Int) - (1 : Int)))) a1)) ≤ (2147483648 : Nat))) (cond (a0 == (30 : Int)) (cond (decide ((0 : Int) ≤ (0 : Int) ∧ (0 : Int) < (↑(List.length (List.take (Int.toNat (↑(List.length a1) : Int) - Int.toNat (IntKind.wrap IntKind.i64 ((↑(List.length a1) : Int) - (1 : Int)))) (List.drop (Int.toNat (IntKind.wrap IntKind.i64 ((↑(List.length a1) : Int) - (1 : Int)))) a1))) : Int))) (outOf (r4_Pick (List.take (List.length (List.take (Int.toNat (IntKind.wrap IntKind.i64 ((↑(List.length a1) : Int) - (1 : Int))) - (0 : Nat)) (List.drop (0 : Nat) a1))) (List.drop (0 : Nat) (List.take (Int.toNat (IntKind.wrap IntKind.i64 ((↑(List.length a1) : Int) - (1 : Int))) - (0 : Nat)) (List.drop (0 : Nat) a1)))) (List.getD (List.take (Int.toNat (↑(List.length a1) : Int) - Int.toNat (IntKind.wrap IntKind.i64 ((↑(List.length a1) : Int) - (1 : Int)))) (List.drop (Int.toNat (IntKind.wrap IntKind.i64 ((↑(List.length a1) : Int) - (1 : Int)))) a1)) (0 : Nat) (0 : Int))) fun (x2 : (Int × Int)) => cond (Prod.snd x2 != (0 : Int)) (k (a1, Prod.snd x2)) (outOf (r4_Push (List.take (List.length (List.take (Int.toNat (IntKind.wrap IntKind.i64 ((↑(List.length a1) : Int) - (1 : Int))) - (0 : Nat)) (List.drop (0 : Nat) a1))) (List.drop (0 : Nat) (List.take (Int.toNat (IntKind.wrap IntKind.i64 ((↑(List.length a1) : Int) - (1 : Int))) - (0 : Nat)) (List.drop (0 : Nat) a1)))) (64 : Int) [Prod.fst x2]) fun (x3 : ((List Int) × Int)) => k (Prod.fst x3, Prod.snd x3))) (none)) (cond (a0 == (31 : Int)) (cond (decide ((0 : Int) ≤ (0 : Int) ∧ (0 : Int) < (↑(List.length (List.take (Int.toNat (↑(List.length a1) : Int) - Int.toNat (IntKind.wrap IntKind.i64 ((↑(List.length a1) : Int) - (1 : Int)))) (List.drop (Int.toNat (IntKind.wrap IntKind.i64 ((↑(List.length a1) : Int) - (1 : Int)))) a1))) : Int))) (outOf (r4_Roll (List.take (List.length (List.take (Int.toNat (IntKind.wrap IntKind.i64 ((↑(List.length a1) : Int) - (1 : Int))) - (0 : Nat)) (List.drop (0 : Nat) a1))) (List.drop (0 : Nat) (List.take (Int.toNat (IntKind.wrap IntKind.i64 ((↑(List.length a1) : Int) - (1 : Int))) - (0 : Nat)) (List.drop (0 : Nat) a1)))) (List.getD (List.take (Int.toNat (↑(List.length a1) : Int) - Int.toNat (IntKind.wrap IntKind.i64 ((↑(List.length a1) : Int) - (1 : Int)))) (List.drop (Int.toNat (IntKind.wrap IntKind.i64 ((↑(List.length a1) : Int) - (1 : Int)))) a1)) (0 : Nat) (0 : Int))) fun (x4 : ((List Int) × Int)) => cond (Prod.snd x4 != (0 : Int)) (k (a1, Prod.snd x4)) (k (Prod.fst x4, (0 : Int)))) (none)) (cond (decide ((0 : Int) ≤ (0 : Int) ∧ (0 : Int) < (↑(List.length (List.take (Int.toNat (↑(List.length a1) : Int) - Int.toNat (IntKind.wrap IntKind.i64 ((↑(List.length a1) : Int) - (1 : Int)))) (List.drop (Int.toNat (IntKind.wrap IntKind.i64 ((↑(List.length a1) : Int) - (1 : Int)))) a1))) : Int))) (cond (List.getD (List.take (Int.toNat (↑(List.length a1) : Int) - Int.toNat (IntKind.wrap IntKind.i64 ((↑(List.length a1) : Int) - (1 : Int)))) (List.drop (Int.toNat (IntKind.wrap IntKind.i64 ((↑(List.length a1) : Int) - (1 : Int)))) a1)) (0 : Nat) (0 : Int) == (0 : Int)) (k (a1, (0 : Int))) (outOf (r4_Push a1 (64 : Int) (List.take (List.length (List.take (Int.toNat (↑(List.length a1) : Int) - Int.toNat (IntKind.wrap IntKind.i64 ((↑(List.length a1) : Int) - (1 : Int)))) (List.drop (Int.toNat (IntKind.wrap IntKind.i64 ((↑(List.length a1) : Int) - (1 : Int)))) a1))) (List.drop (0 : Nat) (List.take (Int.toNat (↑(List.length a1) : Int) - Int.toNat (IntKind.wrap IntKind.i64 ((↑(List.length a1) : Int) - (1 : Int)))) (List.drop (Int.toNat (IntKind.wrap IntKind.i64 ((↑(List.length a1) : Int) - (1 : Int)))) a1))))) fun (x5 : ((List Int) × Int)) => k (Prod.fst x5, Prod.snd x5))) (none)))) (none)) (none)) (none)) (none)))
noncomputable def r9_special (a0 : Int) (a1 : (List Int)) : Option r9_special_R := r9_special_t a0 a1 some
theorem r9_special_t_eq {γ : Type} (a0 : Int) (a1 : (List Int)) (k : r9_special_R → Option γ) : r9_special_t a0 a1 k = outOf (r9_special a0 a1) k := by
  delta r9_special r9_special_t; exact (Tr.nd (Tr.bd fun x1 => Tr.lf) (Tr.nd (Tr.nd Tr.no (Tr.nd Tr.no Tr.no)) (Tr.nd (Tr.nd (Tr.nd (Tr.nd (Tr.nd (Tr.nd (Tr.bd fun x2 => (Tr.nd Tr.lf (Tr.bd fun x3 => Tr.lf))) Tr.no) (Tr.nd (Tr.nd (Tr.bd fun x4 => (Tr.nd Tr.lf Tr.lf)) Tr.no) (Tr.nd (Tr.nd Tr.lf (Tr.bd fun x5 => Tr.lf)) Tr.no))) Tr.no) Tr.no) Tr.no) Tr.no)))
noncomputable def r9_special_sp : TX.Spec := specD [.val (.int .i64), .val (.sl (.int .i64))] [] fun _ a m k => match a, m with | ⟨a0, a1, _⟩, _ => outOf (r9_special a0 a1) fun v => k (.tup [.sl (.int .i64) v.1 false, .lit (.int .i64 v.2)]) []
theorem r9_special_ev {α : Type} (a0 : Int) (a1 : (List Int)) (k : Kont α) : evFun Tryz.prog PzRE2 (r9_special_h0) false Tryz.f16 (bodyOf Tryz.f16) 60 (mkS [.val (.int .i64), .val (.sl (.int .i64))] (a0, a1, ())) (mkH [] ()) k = outOf (r9_special a0 a1) fun v => k (.tup [.sl (.int .i64) v.1 false, .lit (.int .i64 v.2)]) [] :=
  (show _ = r9_special_t a0 a1 (fun v => k (.tup [.sl (.int .i64) v.1 false, .lit (.int .i64 v.2)]) []) from by kernel_rfl).trans (r9_special_t_eq a0 a1 _)
theorem r9_special_good : TX.Good Tryz.prog 16 r9_special_sp := good_form PzRE2_ok mixed Tryz.func16 (body_of rfl) (by kernel_rfl) false fun α a m k r h => by
  obtain ⟨a0, a1, _⟩ := a; obtain _ := m
  exact ⟨r9_special_h0, 60, r9_special_h0_ok, rfl, (r9_special_ev a0 a1 k).trans h⟩
noncomputable def PzRE3 : Env := PzRE2.add 112 true ref_Add_sp |>.add 142 true ref_less_sp |>.add 98 true r1_Floor_sp |>.add 105 true r1_Within_sp |>.add 16 true r9_special_sp
theorem PzRE3_ok : PzRE3.OK Tryz.prog := (((((PzRE2_ok).add_ok ref_Add_good).add_ok ref_less_good).add_ok r1_Floor_good).add_ok r1_Within_good).add_ok r9_special_good
def ref_Neg_h0 : Hints := Hints.nil 0
theorem ref_Neg_h0_ok : ref_Neg_h0.OK Tryz.prog (bodyOf Tryz.f113) := Hints.nil_ok
abbrev ref_Neg_R : Type := (Int × Int)
noncomputable def ref_Neg_t {γ : Type} (a0_0 : Int) (a0_1 : Int) (k : ref_Neg_R → Option γ) : Option γ := outOf (ref_Add (IntKind.wrap IntKind.i64 ((-1 : Int) - a0_0)) (IntKind.wrap IntKind.i64 ((-1 : Int) - a0_1)) (1 : Int) (0 : Int)) fun (x1 : (Int × Int)) => k (Prod.fst x1, Prod.snd x1)
noncomputable def ref_Neg (a0_0 : Int) (a0_1 : Int) : Option ref_Neg_R := ref_Neg_t a0_0 a0_1 some
theorem ref_Neg_t_eq {γ : Type} (a0_0 : Int) (a0_1 : Int) (k : ref_Neg_R → Option γ) : ref_Neg_t a0_0 a0_1 k = outOf (ref_Neg a0_0 a0_1) k := by
  delta ref_Neg ref_Neg_t; exact (Tr.bd fun x1 => Tr.lf)
noncomputable def ref_Neg_sp : TX.Spec := specD [.agg (.pair (.int .i64) (.int .i64))] [] fun _ a m k => match a, m with | ⟨⟨a0_0, a0_1⟩, _⟩, _ => outOf (ref_Neg a0_0 a0_1) fun v => k (.agg [.lit (.int .i64 v.1), .lit (.int .i64 v.2)]) []
theorem ref_Neg_ev {α : Type} (a0_0 : Int) (a0_1 : Int) (k : Kont α) : evFun Tryz.prog PzRE3 (ref_Neg_h0) false Tryz.f113 (bodyOf Tryz.f113) 60 (mkS [.agg (.pair (.int .i64) (.int .i64))] ((a0_0, a0_1), ())) (mkH [] ()) k = outOf (ref_Neg a0_0 a0_1) fun v => k (.agg [.lit (.int .i64 v.1), .lit (.int .i64 v.2)]) [] :=
  (show _ = ref_Neg_t a0_0 a0_1 (fun v => k (.agg [.lit (.int .i64 v.1), .lit (.int .i64 v.2)]) []) from by kernel_rfl).trans (ref_Neg_t_eq a0_0 a0_1 _)
theorem ref_Neg_good : TX.Good Tryz.prog 113 ref_Neg_sp := good_form PzRE3_ok mixed Tryz.func113 (body_of rfl) (by kernel_rfl) false fun α a m k r h => by
  obtain ⟨⟨a0_0, a0_1⟩, _⟩ := a; obtain _ := m
  exact ⟨ref_Neg_h0, 60, ref_Neg_h0_ok, rfl, (ref_Neg_ev a0_0 a0_1 k).trans h⟩
def ref_twice_h0 : Hints := Hints.nil 0
theorem ref_twice_h0_ok : ref_twice_h0.OK Tryz.prog (bodyOf Tryz.f135) := Hints.nil_ok
abbrev ref_twice_R : Type := (Int × Int)
noncomputable def ref_twice_t {γ : Type} (a0_0 : Int) (a0_1 : Int) (k : ref_twice_R → Option γ) : Option γ := outOf (ref_Add a0_0 a0_1 a0_0 a0_1) fun (x1 : (Int × Int)) => k (Prod.fst x1, Prod.snd x1)
noncomputable def ref_twice (a0_0 : Int) (a0_1 : Int) : Option ref_twice_R := ref_twice_t a0_0 a0_1 some
theorem ref_twice_t_eq {γ : Type} (a0_0 : Int) (a0_1 : Int) (k : ref_twice_R → Option γ) : ref_twice_t a0_0 a0_1 k = outOf (ref_twice a0_0 a0_1) k := by
  delta ref_twice ref_twice_t; exact (Tr.bd fun x1 => Tr.lf)
noncomputable def ref_twice_sp : TX.Spec := specD [.agg (.pair (.int .i64) (.int .i64))] [] fun _ a m k => match a, m with | ⟨⟨a0_0, a0_1⟩, _⟩, _ => outOf (ref_twice a0_0 a0_1) fun v => k (.agg [.lit (.int .i64 v.1), .lit (.int .i64 v.2)]) []
theorem ref_twice_ev {α : Type} (a0_0 : Int) (a0_1 : Int) (k : Kont α) : evFun Tryz.prog PzRE3 (ref_twice_h0) false Tryz.f135 (bodyOf Tryz.f135) 60 (mkS [.agg (.pair (.int .i64) (.int .i64))] ((a0_0, a0_1), ())) (mkH [] ()) k = outOf (ref_twice a0_0 a0_1) fun v => k (.agg [.lit (.int .i64 v.1), .lit (.int .i64 v.2)]) [] :=
  (show _ = ref_twice_t a0_0 a0_1 (fun v => k (.agg [.lit (.int .i64 v.1), .lit (.int .i64 v.2)]) []) from by kernel_rfl).trans (ref_twice_t_eq a0_0 a0_1 _)
theorem ref_twice_good : TX.Good Tryz.prog 135 ref_twice_sp := good_form PzRE3_ok mixed Tryz.func135 (body_of rfl) (by kernel_rfl) false fun α a m k r h => by
  obtain ⟨⟨a0_0, a0_1⟩, _⟩ := a; obtain _ := m
  exact ⟨ref_twice_h0, 60, ref_twice_h0_ok, rfl, (ref_twice_ev a0_0 a0_1 k).trans h⟩
def r9_one_h0 : Hints := Hints.nil 0
theorem r9_one_h0_ok : r9_one_h0.OK Tryz.prog (bodyOf Tryz.f35) := Hints.nil_ok
def r9_one_M1_A : List SD := [.any, .val (.int .i64), .any, .any, .any, .any, .any, .any, .val (.int .i64), .any, .any, .any, .any, .any, .any, .any, .any, .any, .any, .any, .any, .any, .any, .any, .any, .any, .any, .any, .any, .any, .any, .any, .any, .any, .any, .any, .any, .any, .any, .any, .any, .any, .any, .any, .any, .any, .any, .any, .any, .any, .any, .any, .any, .any, .any, .any, .any, .any, .any, .any, .any, .any, .any, .any, .any, .any, .any]
def r9_one_M1_H : List HD := []
abbrev r9_one_M1_D : Type := Int × Int
def r9_one_M1_to (a : DenS r9_one_M1_A) (m : DenH r9_one_M1_H) : r9_one_M1_D := (a.2.1, a.2.2.2.2.2.2.2.2.1)
def r9_one_M1_ofA (d : r9_one_M1_D) : DenS r9_one_M1_A := match d with | (s1, s8) => ((), s1, (), (), (), (), (), (), s8, (), (), (), (), (), (), (), (), (), (), (), (), (), (), (), (), (), (), (), (), (), (), (), (), (), (), (), (), (), (), (), (), (), (), (), (), (), (), (), (), (), (), (), (), (), (), (), (), (), (), (), (), (), (), (), (), (), (), ())
def r9_one_M1_ofH (d : r9_one_M1_D) : DenH r9_one_M1_H := match d with | (s1, s8) => ()
def r9_one_M1_N : Norm := (⟨[1, 8], [], []⟩ : Go.TX.Norm)
def r9_one_M1_X : Exit → Norm := fun e => match e with | .normal => ⟨[1, 8, 9], [], []⟩ | _ => ⟨[], [], []⟩
abbrev r9_one_M1_R : Type := (Bool)
def r9_one_M1_fin (d : r9_one_M1_D) (v : r9_one_M1_R) : Exit × St := (.normal, ⟨[.any, .lit (.int .i64 d.1), .any, .any, .any, .any, .any, .any, .lit (.int .i64 d.2), .lit (.bool v), .any, .any, .any, .any, .any, .any, .any, .any, .any, .any, .any, .any, .any, .any, .any, .any, .any, .any, .any, .any, .any, .any, .any, .any, .any, .any, .any, .any, .any, .any, .any, .any, .any, .any, .any, .any, .any, .any, .any, .any, .any, .any, .any, .any, .any, .any, .any, .any, .any, .any, .any, .any, .any, .any, .any, .any, .any], []⟩)
noncomputable def r9_one_M1_t {γ : Type} (s8 : Int) (k : r9_one_M1_R → Option γ) : Option γ := cond (s8 == (41 : Int)) (k (s8 == (41 : Int))) (k (s8 == (73 : Int)))
noncomputable def r9_one_M1 (s8 : Int) : Option r9_one_M1_R := r9_one_M1_t s8 some
theorem r9_one_M1_t_eq {γ : Type} (s8 : Int) (k : r9_one_M1_R → Option γ) : r9_one_M1_t s8 k = outOf (r9_one_M1 s8) k := by
  delta r9_one_M1 r9_one_M1_t; exact (Tr.nd Tr.lf Tr.lf)
theorem r9_one_M1_ev (α : Type) (d : r9_one_M1_D) (k : Exit → St → Option α) : ev Tryz.prog PzRE3 r9_one_h0 60 [0, 0, 1, 0, 1] ((codeAt (bodyOf Tryz.f35) [0, 0, 1, 0, 1]).getD .skip) ⟨mkS r9_one_M1_A (r9_one_M1_ofA d), mkH r9_one_M1_H (r9_one_M1_ofH d)⟩ (exitN 0 r9_one_M1_X k) = outOf (r9_one_M1 d.2) fun x => k (r9_one_M1_fin d x).1 (r9_one_M1_fin d x).2 := by
  obtain ⟨s1, s8⟩ := d
  exact (show _ = r9_one_M1_t s8 (fun x => k (r9_one_M1_fin (s1, s8) x).1 (r9_one_M1_fin (s1, s8) x).2) from by kernel_rfl).trans (r9_one_M1_t_eq s8 _)
noncomputable def r9_one_M1_sp : CSpec := fun _ st k => reNorm 0 r9_one_M1_N r9_one_M1_A r9_one_M1_H st fun a m => outOf (r9_one_M1 (r9_one_M1_to a m).2) fun v => k .normal ⟨[.any, .lit (.int .i64 (r9_one_M1_to a m).1), .any, .any, .any, .any, .any, .any, .lit (.int .i64 (r9_one_M1_to a m).2), .lit (.bool v), .any, .any, .any, .any, .any, .any, .any, .any, .any, .any, .any, .any, .any, .any, .any, .any, .any, .any, .any, .any, .any, .any, .any, .any, .any, .any, .any, .any, .any, .any, .any, .any, .any, .any, .any, .any, .any, .any, .any, .any, .any, .any, .any, .any, .any, .any, .any, .any, .any, .any, .any, .any, .any, .any, .any, .any, .any], []⟩
theorem r9_one_M1_ok : SumOK Tryz.prog 0 ((codeAt (bodyOf Tryz.f35) [0, 0, 1, 0, 1]).getD .skip) r9_one_M1_sp := (SumOK.once PzRE3_ok mixed r9_one_h0_ok (show codeAt (bodyOf Tryz.f35) [0, 0, 1, 0, 1] = some ((codeAt (bodyOf Tryz.f35) [0, 0, 1, 0, 1]).getD .skip) from by kernel_rfl) (N := r9_one_M1_N) (Nx := r9_one_M1_X) (A := r9_one_M1_A) (Hs := r9_one_M1_H) (toD := r9_one_M1_to) (ofA := r9_one_M1_ofA) (ofH := r9_one_M1_ofH) (fun _ _ => rfl) (fun _ _ => rfl) (M := fun d => r9_one_M1 d.2) (fin := r9_one_M1_fin) 60 r9_one_M1_ev).mono fun α st k r h => by
  refine Eq.trans (congrArg (reNorm 0 r9_one_M1_N r9_one_M1_A r9_one_M1_H st) ?_) h
  funext a m
  exact outOf_congr fun x => rfl
noncomputable def r9_one_M1_h : Hints := r9_one_h0.add [0, 0, 1, 0, 1] r9_one_M1_sp
theorem r9_one_M1_h_ok : r9_one_M1_h.OK Tryz.prog (bodyOf Tryz.f35) := r9_one_h0_ok.add (show codeAt (bodyOf Tryz.f35) [0, 0, 1, 0, 1] = some ((codeAt (bodyOf Tryz.f35) [0, 0, 1, 0, 1]).getD .skip) from by kernel_rfl) r9_one_M1_ok
abbrev r9_one_R : Type := (Int)
noncomputable def r9_one_t {γ : Type} (a0 : Int) (a1 : Int) (k : r9_one_R → Option γ) : Option γ := outOf (r9_one_M1 a0) fun (x1 : Bool) => cond x1 (k (IntKind.wrap IntKind.i64 (a1 + (1 : Int)))) (cond (a0 == (42 : Int)) (k (IntKind.wrap IntKind.i64 (a1 - (1 : Int)))) (cond (a0 == (43 : Int)) (k (IntKind.wrap IntKind.i64 (a1 + a1))) (cond (a0 == (44 : Int)) (outOf (r1_Floor a1 (2 : Int)) fun (x2 : (Int × (Int × Int))) => k (Prod.fst x2)) (cond (a0 == (45 : Int)) (k (IntKind.wrap IntKind.i64 ((0 : Int) - a1))) (cond (a0 == (46 : Int)) (cond (decide (a1 < (0 : Int))) (k (IntKind.wrap IntKind.i64 ((0 : Int) - a1))) (k (a1))) (cond (a0 == (52 : Int)) (k (IntKind.wrap IntKind.i64 ((-1 : Int) - a1))) (cond (a0 == (60 : Int)) (outOf (r1_Flag (a1 == (0 : Int))) fun (x3 : Int) => k (x3)) (cond (a0 == (61 : Int)) (outOf (r1_Flag (decide (a1 < (0 : Int)))) fun (x4 : Int) => k (x4)) (cond (a0 == (71 : Int)) (k (IntKind.wrap IntKind.i64 (a1 * (8 : Int)))) (cond (a0 == (72 : Int)) (k (IntKind.wrap IntKind.i64 (a1 + (8 : Int)))) (outOf (r1_Aligned a1) fun (x5 : Int) => k (x5))))))))))))
noncomputable def r9_one (a0 : Int) (a1 : Int) : Option r9_one_R := r9_one_t a0 a1 some
theorem r9_one_t_eq {γ : Type} (a0 : Int) (a1 : Int) (k : r9_one_R → Option γ) : r9_one_t a0 a1 k = outOf (r9_one a0 a1) k := by
  delta r9_one r9_one_t; exact (Tr.bd fun x1 => (Tr.nd Tr.lf (Tr.nd Tr.lf (Tr.nd Tr.lf (Tr.nd (Tr.bd fun x2 => Tr.lf) (Tr.nd Tr.lf (Tr.nd (Tr.nd Tr.lf Tr.lf) (Tr.nd Tr.lf (Tr.nd (Tr.bd fun x3 => Tr.lf) (Tr.nd (Tr.bd fun x4 => Tr.lf) (Tr.nd Tr.lf (Tr.nd Tr.lf (Tr.bd fun x5 => Tr.lf)))))))))))))
noncomputable def r9_one_sp : TX.Spec := specD [.val (.int .i64), .val (.int .i64)] [] fun _ a m k => match a, m with | ⟨a0, a1, _⟩, _ => outOf (r9_one a0 a1) fun v => k (.lit (.int .i64 v)) []
theorem r9_one_ev {α : Type} (a0 : Int) (a1 : Int) (k : Kont α) : evFun Tryz.prog PzRE3 (r9_one_M1_h) false Tryz.f35 (bodyOf Tryz.f35) 60 (mkS [.val (.int .i64), .val (.int .i64)] (a0, a1, ())) (mkH [] ()) k = outOf (r9_one a0 a1) fun v => k (.lit (.int .i64 v)) [] :=
  (show _ = r9_one_t a0 a1 (fun v => k (.lit (.int .i64 v)) []) from by kernel_rfl).trans (r9_one_t_eq a0 a1 _)
theorem r9_one_good : TX.Good Tryz.prog 35 r9_one_sp := good_form PzRE3_ok mixed Tryz.func35 (body_of rfl) (by kernel_rfl) false fun α a m k r h => by
  obtain ⟨a0, a1, _⟩ := a; obtain _ := m
  exact ⟨r9_one_M1_h, 60, r9_one_M1_h_ok, rfl, (r9_one_ev a0 a1 k).trans h⟩
def r9_two_h0 : Hints := Hints.nil 0
theorem r9_two_h0_ok : r9_two_h0.OK Tryz.prog (bodyOf Tryz.f36) := Hints.nil_ok
abbrev r9_two_R : Type := (Int × Int)
noncomputable def r9_two_t {γ : Type} (a0 : Int) (a1 : Int) (a2 : Int) (k : r9_two_R → Option γ) : Option γ := outOf (r1_Floor a1 a2) fun (x1 : (Int × (Int × Int))) => cond (a0 == (33 : Int)) (k (IntKind.wrap IntKind.i64 (a1 + a2), (0 : Int))) (cond (a0 == (34 : Int)) (k (IntKind.wrap IntKind.i64 (a1 - a2), (0 : Int))) (cond (a0 == (35 : Int)) (k (IntKind.wrap IntKind.i64 (a1 * a2), (0 : Int))) (cond (a0 == (36 : Int)) (k (Prod.fst x1, Prod.snd (Prod.snd x1))) (cond (a0 == (37 : Int)) (k (Prod.fst (Prod.snd x1), Prod.snd (Prod.snd x1))) (cond (a0 == (47 : Int)) (k (if a2 < a1 then a2 else a1, (0 : Int))) (cond (a0 == (48 : Int)) (k (if a2 > a1 then a2 else a1, (0 : Int))) (cond (a0 == (49 : Int)) (k (ibits BinOp.and IntKind.i64 a1 a2, (0 : Int))) (cond (a0 == (50 : Int)) (k (ibits BinOp.or IntKind.i64 a1 a2, (0 : Int))) (cond (a0 == (51 : Int)) (k (ibits BinOp.xor IntKind.i64 a1 a2, (0 : Int))) (cond (a0 == (53 : Int)) (outOf (r1_Shl a1 a2) fun (x2 : Int) => k (x2, (0 : Int))) (cond (a0 == (54 : Int)) (outOf (r1_Shr a1 a2) fun (x3 : Int) => k (x3, (0 : Int))) (cond (a0 == (55 : Int)) (outOf (r1_Flag (a1 == a2)) fun (x4 : Int) => k (x4, (0 : Int))) (cond (a0 == (56 : Int)) (outOf (r1_Flag (a1 != a2)) fun (x5 : Int) => k (x5, (0 : Int))) (cond (a0 == (57 : Int)) (outOf (r1_Flag (decide (a1 < a2))) fun (x6 : Int) => k (x6, (0 : Int))) (cond (a0 == (58 : Int)) (outOf (r1_Flag (decide (a1 > a2))) fun (x7 : Int) => k (x7, (0 : Int))) (outOf (ref_Ult a1 a2) fun (x8 : Bool) => outOf (r1_Flag x8) fun (x9 : Int) => k (x9, (0 : Int))))))))))))))))))
noncomputable def r9_two (a0 : Int) (a1 : Int) (a2 : Int) : Option r9_two_R := r9_two_t a0 a1 a2 some
theorem r9_two_t_eq {γ : Type} (a0 : Int) (a1 : Int) (a2 : Int) (k : r9_two_R → Option γ) : r9_two_t a0 a1 a2 k = outOf (r9_two a0 a1 a2) k := by
  delta r9_two r9_two_t; exact (Tr.bd fun x1 => (Tr.nd Tr.lf (Tr.nd Tr.lf (Tr.nd Tr.lf (Tr.nd Tr.lf (Tr.nd Tr.lf (Tr.nd Tr.lf (Tr.nd Tr.lf (Tr.nd Tr.lf (Tr.nd Tr.lf (Tr.nd Tr.lf (Tr.nd (Tr.bd fun x2 => Tr.lf) (Tr.nd (Tr.bd fun x3 => Tr.lf) (Tr.nd (Tr.bd fun x4 => Tr.lf) (Tr.nd (Tr.bd fun x5 => Tr.lf) (Tr.nd (Tr.bd fun x6 => Tr.lf) (Tr.nd (Tr.bd fun x7 => Tr.lf) (Tr.bd fun x8 => (Tr.bd fun x9 => Tr.lf)))))))))))))))))))
noncomputable def r9_two_sp : TX.Spec := specD [.val (.int .i64), .val (.int .i64), .val (.int .i64)] [] fun _ a m k => match a, m with | ⟨a0, a1, a2, _⟩, _ => outOf (r9_two a0 a1 a2) fun v => k (.tup [.lit (.int .i64 v.1), .lit (.int .i64 v.2)]) []
theorem r9_two_ev {α : Type} (a0 : Int) (a1 : Int) (a2 : Int) (k : Kont α) : evFun Tryz.prog PzRE3 (r9_two_h0) false Tryz.f36 (bodyOf Tryz.f36) 60 (mkS [.val (.int .i64), .val (.int .i64), .val (.int .i64)] (a0, a1, a2, ())) (mkH [] ()) k = outOf (r9_two a0 a1 a2) fun v => k (.tup [.lit (.int .i64 v.1), .lit (.int .i64 v.2)]) [] :=
  (show _ = r9_two_t a0 a1 a2 (fun v => k (.tup [.lit (.int .i64 v.1), .lit (.int .i64 v.2)]) []) from by kernel_rfl).trans (r9_two_t_eq a0 a1 a2 _)
theorem r9_two_good : TX.Good Tryz.prog 36 r9_two_sp := good_form PzRE3_ok mixed Tryz.func36 (body_of rfl) (by kernel_rfl) false fun α a m k r h => by
  obtain ⟨a0, a1, a2, _⟩ := a; obtain _ := m
  exact ⟨r9_two_h0, 60, r9_two_h0_ok, rfl, (r9_two_ev a0 a1 a2 k).trans h⟩
noncomputable def PzRE4 : Env := PzRE3.add 113 true ref_Neg_sp |>.add 135 true ref_twice_sp |>.add 35 true r9_one_sp |>.add 36 true r9_two_sp
theorem PzRE4_ok : PzRE4.OK Tryz.prog := ((((PzRE3_ok).add_ok ref_Neg_good).add_ok ref_twice_good).add_ok r9_one_good).add_ok r9_two_good
def ref_UMul_h0 : Hints := Hints.nil 0
theorem ref_UMul_h0_ok : ref_UMul_h0.OK Tryz.prog (bodyOf Tryz.f106) := Hints.nil_ok
def ref_UMul_L1_A : List SD := [.val (.int .i64), .val (.int .i64), .any, .any, .loc 0 0 0, .loc 1 0 0, .val (.int .i64), .any, .any, .any, .any, .any, .any, .any, .any, .any, .any, .any, .any, .any, .any, .any, .any]
def ref_UMul_L1_H : List HD := [.box [.val (.int .i64), .val (.int .i64)], .box [.val (.int .i64), .val (.int .i64)]]
abbrev ref_UMul_L1_D : Type := Int × Int × Int × Int × Int × Int × Int
def ref_UMul_L1_to (a : DenS ref_UMul_L1_A) (m : DenH ref_UMul_L1_H) : ref_UMul_L1_D := (a.1, a.2.1, a.2.2.2.2.2.2.1, m.1.1, m.1.2.1, m.2.1.1, m.2.1.2.1)
def ref_UMul_L1_ofA (d : ref_UMul_L1_D) : DenS ref_UMul_L1_A := match d with | (s0, s1, s6, m0_0, m0_1, m1_0, m1_1) => (s0, s1, (), (), (), (), s6, (), (), (), (), (), (), (), (), (), (), (), (), (), (), (), (), ())
def ref_UMul_L1_ofH (d : ref_UMul_L1_D) : DenH ref_UMul_L1_H := match d with | (s0, s1, s6, m0_0, m0_1, m1_0, m1_1) => ((m0_0, m0_1, ()), (m1_0, m1_1, ()), ())
def ref_UMul_L1_N : Norm := (⟨[0, 1, 4, 5, 6], [], []⟩ : Go.TX.Norm)
def ref_UMul_L1_X : Exit → Norm := fun e => match e with | .exit 0 => ⟨[4, 5], [], []⟩ | _ => ⟨[], [], []⟩
abbrev ref_UMul_L1_R : Type := (Int × Int × Int × Int)
def ref_UMul_L1_fin (v : ref_UMul_L1_R) : Exit × St := ((.exit 0), ⟨[.any, .any, .any, .any, .ptr 0 0 0, .ptr 1 0 0, .any, .any, .any, .any, .any, .any, .any, .any, .any, .any, .any, .any, .any, .any, .any, .any, .any], [.box [.lit (.int .i64 v.1), .lit (.int .i64 v.2.1)], .box [.lit (.int .i64 v.2.2.1), .lit (.int .i64 v.2.2.2)]]⟩)
noncomputable def ref_UMul_L1_t {γ : Type} (s0 : Int) (s1 : Int) (s6 : Int) (m0_0 : Int) (m0_1 : Int) (m1_0 : Int) (m1_1 : Int) (next : ref_UMul_L1_D → Option γ) (out : ref_UMul_L1_R → Option γ) : Option γ := cond (decide (s6 ≥ (0 : Int))) (outOf (ref_twice m1_0 m1_1) fun (x1 : (Int × Int)) => outOf (ref_Bit s1 s6) fun (x2 : Int) => cond (x2 == (1 : Int)) (outOf (ref_Add (Prod.fst x1) (Prod.snd x1) s0 (0 : Int)) fun (x3 : (Int × Int)) => next (s0, s1, IntKind.wrap IntKind.i64 (s6 - (1 : Int)), m0_0, m0_1, Prod.fst x3, Prod.snd x3)) (next (s0, s1, IntKind.wrap IntKind.i64 (s6 - (1 : Int)), m0_0, m0_1, Prod.fst x1, Prod.snd x1))) (out (m0_0, m0_1, m1_0, m1_1))
noncomputable def ref_UMul_L1_pass (d : ref_UMul_L1_D) : Option (ref_UMul_L1_D ⊕ ref_UMul_L1_R) := ref_UMul_L1_t d.1 d.2.1 d.2.2.1 d.2.2.2.1 d.2.2.2.2.1 d.2.2.2.2.2.1 d.2.2.2.2.2.2 (fun d => some (.inl d)) (fun x => some (.inr x))
theorem ref_UMul_L1_t_eq {γ : Type} (s0 : Int) (s1 : Int) (s6 : Int) (m0_0 : Int) (m0_1 : Int) (m1_0 : Int) (m1_1 : Int) (next : ref_UMul_L1_D → Option γ) (out : ref_UMul_L1_R → Option γ) : ref_UMul_L1_t s0 s1 s6 m0_0 m0_1 m1_0 m1_1 next out = PassOf (ref_UMul_L1_t s0 s1 s6 m0_0 m0_1 m1_0 m1_1 (fun d => some (.inl d)) (fun x => some (.inr x))) next out := by
  delta ref_UMul_L1_t; exact (Ps.nd (Ps.bd fun x1 => (Ps.bd fun x2 => (Ps.nd (Ps.bd fun x3 => Ps.nx) Ps.nx))) Ps.ou)
theorem ref_UMul_L1_ev (α : Type) (d : ref_UMul_L1_D) (next : ref_UMul_L1_D → Option α) (k : Exit → St → Option α) : ev Tryz.prog PzRE4 ref_UMul_h0 60 [0, 0, 1, 0, 1, 1] ((codeAt (bodyOf Tryz.f106) [0, 0, 1, 0, 1, 1]).getD .skip) ⟨mkS ref_UMul_L1_A (ref_UMul_L1_ofA d), mkH ref_UMul_L1_H (ref_UMul_L1_ofH d)⟩ (passK 0 ref_UMul_L1_N ref_UMul_L1_A ref_UMul_L1_H ref_UMul_L1_X (fun a m => next (ref_UMul_L1_to a m)) k) = PassOf (ref_UMul_L1_pass d) next fun x => k (ref_UMul_L1_fin x).1 (ref_UMul_L1_fin x).2 := by
  obtain ⟨s0, s1, s6, m0_0, m0_1, m1_0, m1_1⟩ := d
  exact (show _ = ref_UMul_L1_t s0 s1 s6 m0_0 m0_1 m1_0 m1_1 next (fun x => k (ref_UMul_L1_fin x).1 (ref_UMul_L1_fin x).2) from by kernel_rfl).trans (ref_UMul_L1_t_eq s0 s1 s6 m0_0 m0_1 m1_0 m1_1 _ _)
noncomputable def ref_UMul_L1 (d : ref_UMul_L1_D) : Option ref_UMul_L1_R := runs ref_UMul_L1_pass d
noncomputable def ref_UMul_L1_sp : CSpec := fun _ st k => reNorm 0 ref_UMul_L1_N ref_UMul_L1_A ref_UMul_L1_H st fun a m => outOf (ref_UMul_L1 (ref_UMul_L1_to a m)) fun v => k (.exit 0) ⟨[.any, .any, .any, .any, .ptr 0 0 0, .ptr 1 0 0, .any, .any, .any, .any, .any, .any, .any, .any, .any, .any, .any, .any, .any, .any, .any, .any, .any], [.box [.lit (.int .i64 v.1), .lit (.int .i64 v.2.1)], .box [.lit (.int .i64 v.2.2.1), .lit (.int .i64 v.2.2.2)]]⟩
theorem ref_UMul_L1_ok : SumOK Tryz.prog 0 (.loop ((codeAt (bodyOf Tryz.f106) [0, 0, 1, 0, 1, 1]).getD .skip)) ref_UMul_L1_sp := (SumOK.loop PzRE4_ok mixed ref_UMul_h0_ok (show codeAt (bodyOf Tryz.f106) [0, 1, 0, 1, 1] = some (.loop ((codeAt (bodyOf Tryz.f106) [0, 0, 1, 0, 1, 1]).getD .skip)) from by kernel_rfl) (N := ref_UMul_L1_N) (Nx := ref_UMul_L1_X) (A := ref_UMul_L1_A) (Hs := ref_UMul_L1_H) (toD := ref_UMul_L1_to) (ofA := ref_UMul_L1_ofA) (ofH := ref_UMul_L1_ofH) (fun _ _ => rfl) (fun _ _ => rfl) (pass := ref_UMul_L1_pass) (fin := ref_UMul_L1_fin) 60 ref_UMul_L1_ev (steps ref_UMul_L1_pass)).mono fun α st k r h => by
  refine Eq.trans (congrArg (reNorm 0 ref_UMul_L1_N ref_UMul_L1_A ref_UMul_L1_H st) ?_) h
  funext a m
  exact outOf_congr fun x => rfl
noncomputable def ref_UMul_L1_h : Hints := ref_UMul_h0.add [0, 1, 0, 1, 1] ref_UMul_L1_sp
theorem ref_UMul_L1_h_ok : ref_UMul_L1_h.OK Tryz.prog (bodyOf Tryz.f106) := ref_UMul_h0_ok.add (show codeAt (bodyOf Tryz.f106) [0, 1, 0, 1, 1] = some (.loop ((codeAt (bodyOf Tryz.f106) [0, 0, 1, 0, 1, 1]).getD .skip)) from by kernel_rfl) ref_UMul_L1_ok
abbrev ref_UMul_R : Type := (Int × Int)
noncomputable def ref_UMul_t {γ : Type} (a0 : Int) (a1 : Int) (k : ref_UMul_R → Option γ) : Option γ := outOf (ref_UMul_L1 (a0, a1, (63 : Int), (0 : Int), (0 : Int), (0 : Int), (0 : Int))) fun (x4 : (Int × (Int × (Int × Int)))) => k (Prod.fst (Prod.snd (Prod.snd x4)), Prod.snd (Prod.snd (Prod.snd x4)))
noncomputable def ref_UMul (a0 : Int) (a1 : Int) : Option ref_UMul_R := ref_UMul_t a0 a1 some
theorem ref_UMul_t_eq {γ : Type} (a0 : Int) (a1 : Int) (k : ref_UMul_R → Option γ) : ref_UMul_t a0 a1 k = outOf (ref_UMul a0 a1) k := by
  delta ref_UMul ref_UMul_t; exact (Tr.bd fun x4 => Tr.lf)
noncomputable def ref_UMul_sp : TX.Spec := specD [.val (.int .i64), .val (.int .i64)] [] fun _ a m k => match a, m with | ⟨a0, a1, _⟩, _ => outOf (ref_UMul a0 a1) fun v => k (.agg [.lit (.int .i64 v.1), .lit (.int .i64 v.2)]) []
theorem ref_UMul_ev {α : Type} (a0 : Int) (a1 : Int) (k : Kont α) : evFun Tryz.prog PzRE4 (ref_UMul_L1_h) false Tryz.f106 (bodyOf Tryz.f106) 60 (mkS [.val (.int .i64), .val (.int .i64)] (a0, a1, ())) (mkH [] ()) k = outOf (ref_UMul a0 a1) fun v => k (.agg [.lit (.int .i64 v.1), .lit (.int .i64 v.2)]) [] :=
  (show _ = ref_UMul_t a0 a1 (fun v => k (.agg [.lit (.int .i64 v.1), .lit (.int .i64 v.2)]) []) from by kernel_rfl).trans (ref_UMul_t_eq a0 a1 _)
theorem ref_UMul_good : TX.Good Tryz.prog 106 ref_UMul_sp := good_form PzRE4_ok mixed Tryz.func106 (body_of rfl) (by kernel_rfl) false fun α a m k r h => by
  obtain ⟨a0, a1, _⟩ := a; obtain _ := m
  exact ⟨ref_UMul_L1_h, 60, ref_UMul_L1_h_ok, rfl, (ref_UMul_ev a0 a1 k).trans h⟩
def ref_Mul_h0 : Hints := Hints.nil 0
theorem ref_Mul_h0_ok : ref_Mul_h0.OK Tryz.prog (bodyOf Tryz.f107) := Hints.nil_ok
def ref_Mul_L1_A : List SD := [.any, .val (.int .i64), .any, .any, .loc 0 0 0, .loc 1 0 0, .loc 2 0 0, .val (.int .i64), .any, .any, .any, .any, .any, .any, .any, .any, .any, .any, .any, .any, .any, .any, .any, .any, .any, .any, .any, .any, .any, .any, .any, .any, .any, .any, .any, .any, .any, .any, .any, .any, .any]
def ref_Mul_L1_H : List HD := [.box [.val (.int .i64), .val (.int .i64)], .box [.val (.int .i64), .val (.int .i64)], .box [.val (.int .i64), .val (.int .i64)]]
abbrev ref_Mul_L1_D : Type := Int × Int × Int × Int × Int × Int × Int × Int
def ref_Mul_L1_to (a : DenS ref_Mul_L1_A) (m : DenH ref_Mul_L1_H) : ref_Mul_L1_D := (a.2.1, a.2.2.2.2.2.2.2.1, m.1.1, m.1.2.1, m.2.1.1, m.2.1.2.1, m.2.2.1.1, m.2.2.1.2.1)
def ref_Mul_L1_ofA (d : ref_Mul_L1_D) : DenS ref_Mul_L1_A := match d with | (s1, s7, m0_0, m0_1, m1_0, m1_1, m2_0, m2_1) => ((), s1, (), (), (), (), (), s7, (), (), (), (), (), (), (), (), (), (), (), (), (), (), (), (), (), (), (), (), (), (), (), (), (), (), (), (), (), (), (), (), (), ())
def ref_Mul_L1_ofH (d : ref_Mul_L1_D) : DenH ref_Mul_L1_H := match d with | (s1, s7, m0_0, m0_1, m1_0, m1_1, m2_0, m2_1) => ((m0_0, m0_1, ()), (m1_0, m1_1, ()), (m2_0, m2_1, ()), ())
def ref_Mul_L1_N : Norm := (⟨[1, 4, 5, 6, 7], [], []⟩ : Go.TX.Norm)
def ref_Mul_L1_X : Exit → Norm := fun e => match e with | .exit 0 => ⟨[4, 5], [], []⟩ | _ => ⟨[], [], []⟩
def ref_Mul_M1_A : List SD := [.any, .val (.int .i64), .any, .any, .loc 0 0 0, .loc 1 0 0, .loc 2 0 0, .val (.int .i64), .any, .any, .any, .any, .any, .any, .any, .any, .any, .any, .any, .any, .any, .any, .any, .any, .any, .any, .any, .any, .any, .any, .any, .any, .any, .any, .any, .any, .any, .any, .any, .any, .any]
def ref_Mul_M1_H : List HD := [.box [.val (.int .i64), .val (.int .i64)], .box [.val (.int .i64), .val (.int .i64)], .box [.val (.int .i64), .val (.int .i64)]]
abbrev ref_Mul_M1_D : Type := Int × Int × Int × Int × Int × Int × Int × Int
def ref_Mul_M1_to (a : DenS ref_Mul_M1_A) (m : DenH ref_Mul_M1_H) : ref_Mul_M1_D := (a.2.1, a.2.2.2.2.2.2.2.1, m.1.1, m.1.2.1, m.2.1.1, m.2.1.2.1, m.2.2.1.1, m.2.2.1.2.1)
def ref_Mul_M1_ofA (d : ref_Mul_M1_D) : DenS ref_Mul_M1_A := match d with | (s1, s7, m0_0, m0_1, m1_0, m1_1, m2_0, m2_1) => ((), s1, (), (), (), (), (), s7, (), (), (), (), (), (), (), (), (), (), (), (), (), (), (), (), (), (), (), (), (), (), (), (), (), (), (), (), (), (), (), (), (), ())
def ref_Mul_M1_ofH (d : ref_Mul_M1_D) : DenH ref_Mul_M1_H := match d with | (s1, s7, m0_0, m0_1, m1_0, m1_1, m2_0, m2_1) => ((m0_0, m0_1, ()), (m1_0, m1_1, ()), (m2_0, m2_1, ()), ())
def ref_Mul_M1_N : Norm := (⟨[1, 4, 5, 6, 7], [], []⟩ : Go.TX.Norm)
def ref_Mul_M1_X : Exit → Norm := fun e => match e with | .normal => ⟨[1, 4, 5, 6, 7], [], []⟩ | _ => ⟨[], [], []⟩
abbrev ref_Mul_M1_R : Type := (Int × Int)
def ref_Mul_M1_fin (d : ref_Mul_M1_D) (v : ref_Mul_M1_R) : Exit × St := (.normal, ⟨[.any, .lit (.int .i64 d.1), .any, .any, .ptr 0 0 0, .ptr 1 0 0, .ptr 2 0 0, .lit (.int .i64 d.2.1), .any, .any, .any, .any, .any, .any, .any, .any, .any, .any, .any, .any, .any, .any, .any, .any, .any, .any, .any, .any, .any, .any, .any, .any, .any, .any, .any, .any, .any, .any, .any, .any, .any], [.box [.lit (.int .i64 d.2.2.1), .lit (.int .i64 d.2.2.2.1)], .box [.lit (.int .i64 v.1), .lit (.int .i64 v.2)], .box [.lit (.int .i64 d.2.2.2.2.2.2.1), .lit (.int .i64 d.2.2.2.2.2.2.2)]]⟩)
noncomputable def ref_Mul_M1_t {γ : Type} (s1 : Int) (s7 : Int) (m1_0 : Int) (m1_1 : Int) (m2_0 : Int) (m2_1 : Int) (k : ref_Mul_M1_R → Option γ) : Option γ := outOf (ref_Bit s1 s7) fun (x3 : Int) => cond (x3 == (1 : Int)) (cond (decide (s7 < (63 : Int))) (outOf (ref_Add m1_0 m1_1 m2_0 m2_1) fun (x4 : (Int × Int)) => k (Prod.fst x4, Prod.snd x4)) (k (m1_0, m1_1))) (k (m1_0, m1_1))
noncomputable def ref_Mul_M1 (s1 : Int) (s7 : Int) (m1_0 : Int) (m1_1 : Int) (m2_0 : Int) (m2_1 : Int) : Option ref_Mul_M1_R := ref_Mul_M1_t s1 s7 m1_0 m1_1 m2_0 m2_1 some
theorem ref_Mul_M1_t_eq {γ : Type} (s1 : Int) (s7 : Int) (m1_0 : Int) (m1_1 : Int) (m2_0 : Int) (m2_1 : Int) (k : ref_Mul_M1_R → Option γ) : ref_Mul_M1_t s1 s7 m1_0 m1_1 m2_0 m2_1 k = outOf (ref_Mul_M1 s1 s7 m1_0 m1_1 m2_0 m2_1) k := by
  delta ref_Mul_M1 ref_Mul_M1_t; exact (Tr.bd fun x3 => (Tr.nd (Tr.nd (Tr.bd fun x4 => Tr.lf) Tr.lf) Tr.lf))
theorem ref_Mul_M1_ev (α : Type) (d : ref_Mul_M1_D) (k : Exit → St → Option α) : ev Tryz.prog PzRE4 ref_Mul_h0 60 [0, 0, 0, 1, 0, 0, 1, 0, 1, 1, 1] ((codeAt (bodyOf Tryz.f107) [0, 0, 0, 1, 0, 0, 1, 0, 1, 1, 1]).getD .skip) ⟨mkS ref_Mul_M1_A (ref_Mul_M1_ofA d), mkH ref_Mul_M1_H (ref_Mul_M1_ofH d)⟩ (exitN 0 ref_Mul_M1_X k) = outOf (ref_Mul_M1 d.1 d.2.1 d.2.2.2.2.1 d.2.2.2.2.2.1 d.2.2.2.2.2.2.1 d.2.2.2.2.2.2.2) fun x => k (ref_Mul_M1_fin d x).1 (ref_Mul_M1_fin d x).2 := by
  obtain ⟨s1, s7, m0_0, m0_1, m1_0, m1_1, m2_0, m2_1⟩ := d
  exact (show _ = ref_Mul_M1_t s1 s7 m1_0 m1_1 m2_0 m2_1 (fun x => k (ref_Mul_M1_fin (s1, s7, m0_0, m0_1, m1_0, m1_1, m2_0, m2_1) x).1 (ref_Mul_M1_fin (s1, s7, m0_0, m0_1, m1_0, m1_1, m2_0, m2_1) x).2) from by kernel_rfl).trans (ref_Mul_M1_t_eq s1 s7 m1_0 m1_1 m2_0 m2_1 _)
noncomputable def ref_Mul_M1_sp : CSpec := fun _ st k => reNorm 0 ref_Mul_M1_N ref_Mul_M1_A ref_Mul_M1_H st fun a m => outOf (ref_Mul_M1 (ref_Mul_M1_to a m).1 (ref_Mul_M1_to a m).2.1 (ref_Mul_M1_to a m).2.2.2.2.1 (ref_Mul_M1_to a m).2.2.2.2.2.1 (ref_Mul_M1_to a m).2.2.2.2.2.2.1 (ref_Mul_M1_to a m).2.2.2.2.2.2.2) fun v => k .normal ⟨[.any, .lit (.int .i64 (ref_Mul_M1_to a m).1), .any, .any, .ptr 0 0 0, .ptr 1 0 0, .ptr 2 0 0, .lit (.int .i64 (ref_Mul_M1_to a m).2.1), .any, .any, .any, .any, .any, .any, .any, .any, .any, .any, .any, .any, .any, .any, .any, .any, .any, .any, .any, .any, .any, .any, .any, .any, .any, .any, .any, .any, .any, .any, .any, .any, .any], [.box [.lit (.int .i64 (ref_Mul_M1_to a m).2.2.1), .lit (.int .i64 (ref_Mul_M1_to a m).2.2.2.1)], .box [.lit (.int .i64 v.1), .lit (.int .i64 v.2)], .box [.lit (.int .i64 (ref_Mul_M1_to a m).2.2.2.2.2.2.1), .lit (.int .i64 (ref_Mul_M1_to a m).2.2.2.2.2.2.2)]]⟩
theorem ref_Mul_M1_ok : SumOK Tryz.prog 0 ((codeAt (bodyOf Tryz.f107) [0, 0, 0, 1, 0, 0, 1, 0, 1, 1, 1]).getD .skip) ref_Mul_M1_sp := (SumOK.once PzRE4_ok mixed ref_Mul_h0_ok (show codeAt (bodyOf Tryz.f107) [0, 0, 0, 1, 0, 0, 1, 0, 1, 1, 1] = some ((codeAt (bodyOf Tryz.f107) [0, 0, 0, 1, 0, 0, 1, 0, 1, 1, 1]).getD .skip) from by kernel_rfl) (N := ref_Mul_M1_N) (Nx := ref_Mul_M1_X) (A := ref_Mul_M1_A) (Hs := ref_Mul_M1_H) (toD := ref_Mul_M1_to) (ofA := ref_Mul_M1_ofA) (ofH := ref_Mul_M1_ofH) (fun _ _ => rfl) (fun _ _ => rfl) (M := fun d => ref_Mul_M1 d.1 d.2.1 d.2.2.2.2.1 d.2.2.2.2.2.1 d.2.2.2.2.2.2.1 d.2.2.2.2.2.2.2) (fin := ref_Mul_M1_fin) 60 ref_Mul_M1_ev).mono fun α st k r h => by
  refine Eq.trans (congrArg (reNorm 0 ref_Mul_M1_N ref_Mul_M1_A ref_Mul_M1_H st) ?_) h
  funext a m
  exact outOf_congr fun x => rfl
noncomputable def ref_Mul_M1_h : Hints := ref_Mul_h0.add [0, 0, 0, 1, 0, 0, 1, 0, 1, 1, 1] ref_Mul_M1_sp
theorem ref_Mul_M1_h_ok : ref_Mul_M1_h.OK Tryz.prog (bodyOf Tryz.f107) := ref_Mul_h0_ok.add (show codeAt (bodyOf Tryz.f107) [0, 0, 0, 1, 0, 0, 1, 0, 1, 1, 1] = some ((codeAt (bodyOf Tryz.f107) [0, 0, 0, 1, 0, 0, 1, 0, 1, 1, 1]).getD .skip) from by kernel_rfl) ref_Mul_M1_ok
def ref_Mul_M2_A : List SD := [.any, .val (.int .i64), .any, .any, .loc 0 0 0, .loc 1 0 0, .loc 2 0 0, .val (.int .i64), .any, .any, .any, .any, .any, .any, .any, .any, .any, .any, .any, .any, .any, .any, .any, .any, .any, .any, .any, .any, .any, .any, .any, .any, .any, .any, .any, .any, .any, .any, .any, .any, .any]
def ref_Mul_M2_H : List HD := [.box [.val (.int .i64), .val (.int .i64)], .box [.val (.int .i64), .val (.int .i64)], .box [.val (.int .i64), .val (.int .i64)]]
abbrev ref_Mul_M2_D : Type := Int × Int × Int × Int × Int × Int × Int × Int
def ref_Mul_M2_to (a : DenS ref_Mul_M2_A) (m : DenH ref_Mul_M2_H) : ref_Mul_M2_D := (a.2.1, a.2.2.2.2.2.2.2.1, m.1.1, m.1.2.1, m.2.1.1, m.2.1.2.1, m.2.2.1.1, m.2.2.1.2.1)
def ref_Mul_M2_ofA (d : ref_Mul_M2_D) : DenS ref_Mul_M2_A := match d with | (s1, s7, m0_0, m0_1, m1_0, m1_1, m2_0, m2_1) => ((), s1, (), (), (), (), (), s7, (), (), (), (), (), (), (), (), (), (), (), (), (), (), (), (), (), (), (), (), (), (), (), (), (), (), (), (), (), (), (), (), (), ())
def ref_Mul_M2_ofH (d : ref_Mul_M2_D) : DenH ref_Mul_M2_H := match d with | (s1, s7, m0_0, m0_1, m1_0, m1_1, m2_0, m2_1) => ((m0_0, m0_1, ()), (m1_0, m1_1, ()), (m2_0, m2_1, ()), ())
def ref_Mul_M2_N : Norm := (⟨[1, 4, 5, 6, 7], [], []⟩ : Go.TX.Norm)
def ref_Mul_M2_X : Exit → Norm := fun e => match e with | .normal => ⟨[1, 4, 5, 6, 7, 33], [], []⟩ | _ => ⟨[], [], []⟩
abbrev ref_Mul_M2_R : Type := (Bool)
def ref_Mul_M2_fin (d : ref_Mul_M2_D) (v : ref_Mul_M2_R) : Exit × St := (.normal, ⟨[.any, .lit (.int .i64 d.1), .any, .any, .ptr 0 0 0, .ptr 1 0 0, .ptr 2 0 0, .lit (.int .i64 d.2.1), .any, .any, .any, .any, .any, .any, .any, .any, .any, .any, .any, .any, .any, .any, .any, .any, .any, .any, .any, .any, .any, .any, .any, .any, .any, .lit (.bool v), .any, .any, .any, .any, .any, .any, .any], [.box [.lit (.int .i64 d.2.2.1), .lit (.int .i64 d.2.2.2.1)], .box [.lit (.int .i64 d.2.2.2.2.1), .lit (.int .i64 d.2.2.2.2.2.1)], .box [.lit (.int .i64 d.2.2.2.2.2.2.1), .lit (.int .i64 d.2.2.2.2.2.2.2)]]⟩)
noncomputable def ref_Mul_M2_t {γ : Type} (s1 : Int) (s7 : Int) (k : ref_Mul_M2_R → Option γ) : Option γ := outOf (ref_Bit s1 s7) fun (x7 : Int) => cond (x7 == (1 : Int)) (k (s7 == (63 : Int))) (k (false))
noncomputable def ref_Mul_M2 (s1 : Int) (s7 : Int) : Option ref_Mul_M2_R := ref_Mul_M2_t s1 s7 some
theorem ref_Mul_M2_t_eq {γ : Type} (s1 : Int) (s7 : Int) (k : ref_Mul_M2_R → Option γ) : ref_Mul_M2_t s1 s7 k = outOf (ref_Mul_M2 s1 s7) k := by
  delta ref_Mul_M2 ref_Mul_M2_t; exact (Tr.bd fun x7 => (Tr.nd Tr.lf Tr.lf))
theorem ref_Mul_M2_ev (α : Type) (d : ref_Mul_M2_D) (k : Exit → St → Option α) : ev Tryz.prog PzRE4 ref_Mul_M1_h 60 [0, 0, 1, 0, 0, 1, 0, 0, 1, 0, 1, 1, 1] ((codeAt (bodyOf Tryz.f107) [0, 0, 1, 0, 0, 1, 0, 0, 1, 0, 1, 1, 1]).getD .skip) ⟨mkS ref_Mul_M2_A (ref_Mul_M2_ofA d), mkH ref_Mul_M2_H (ref_Mul_M2_ofH d)⟩ (exitN 0 ref_Mul_M2_X k) = outOf (ref_Mul_M2 d.1 d.2.1) fun x => k (ref_Mul_M2_fin d x).1 (ref_Mul_M2_fin d x).2 := by
  obtain ⟨s1, s7, m0_0, m0_1, m1_0, m1_1, m2_0, m2_1⟩ := d
  exact (show _ = ref_Mul_M2_t s1 s7 (fun x => k (ref_Mul_M2_fin (s1, s7, m0_0, m0_1, m1_0, m1_1, m2_0, m2_1) x).1 (ref_Mul_M2_fin (s1, s7, m0_0, m0_1, m1_0, m1_1, m2_0, m2_1) x).2) from by kernel_rfl).trans (ref_Mul_M2_t_eq s1 s7 _)
noncomputable def ref_Mul_M2_sp : CSpec := fun _ st k => reNorm 0 ref_Mul_M2_N ref_Mul_M2_A ref_Mul_M2_H st fun a m => outOf (ref_Mul_M2 (ref_Mul_M2_to a m).1 (ref_Mul_M2_to a m).2.1) fun v => k .normal ⟨[.any, .lit (.int .i64 (ref_Mul_M2_to a m).1), .any, .any, .ptr 0 0 0, .ptr 1 0 0, .ptr 2 0 0, .lit (.int .i64 (ref_Mul_M2_to a m).2.1), .any, .any, .any, .any, .any, .any, .any, .any, .any, .any, .any, .any, .any, .any, .any, .any, .any, .any, .any, .any, .any, .any, .any, .any, .any, .lit (.bool v), .any, .any, .any, .any, .any, .any, .any], [.box [.lit (.int .i64 (ref_Mul_M2_to a m).2.2.1), .lit (.int .i64 (ref_Mul_M2_to a m).2.2.2.1)], .box [.lit (.int .i64 (ref_Mul_M2_to a m).2.2.2.2.1), .lit (.int .i64 (ref_Mul_M2_to a m).2.2.2.2.2.1)], .box [.lit (.int .i64 (ref_Mul_M2_to a m).2.2.2.2.2.2.1), .lit (.int .i64 (ref_Mul_M2_to a m).2.2.2.2.2.2.2)]]⟩
theorem ref_Mul_M2_ok : SumOK Tryz.prog 0 ((codeAt (bodyOf Tryz.f107) [0, 0, 1, 0, 0, 1, 0, 0, 1, 0, 1, 1, 1]).getD .skip) ref_Mul_M2_sp := (SumOK.once PzRE4_ok mixed ref_Mul_M1_h_ok (show codeAt (bodyOf Tryz.f107) [0, 0, 1, 0, 0, 1, 0, 0, 1, 0, 1, 1, 1] = some ((codeAt (bodyOf Tryz.f107) [0, 0, 1, 0, 0, 1, 0, 0, 1, 0, 1, 1, 1]).getD .skip) from by kernel_rfl) (N := ref_Mul_M2_N) (Nx := ref_Mul_M2_X) (A := ref_Mul_M2_A) (Hs := ref_Mul_M2_H) (toD := ref_Mul_M2_to) (ofA := ref_Mul_M2_ofA) (ofH := ref_Mul_M2_ofH) (fun _ _ => rfl) (fun _ _ => rfl) (M := fun d => ref_Mul_M2 d.1 d.2.1) (fin := ref_Mul_M2_fin) 60 ref_Mul_M2_ev).mono fun α st k r h => by
  refine Eq.trans (congrArg (reNorm 0 ref_Mul_M2_N ref_Mul_M2_A ref_Mul_M2_H st) ?_) h
  funext a m
  exact outOf_congr fun x => rfl
noncomputable def ref_Mul_M2_h : Hints := ref_Mul_M1_h.add [0, 0, 1, 0, 0, 1, 0, 0, 1, 0, 1, 1, 1] ref_Mul_M2_sp
theorem ref_Mul_M2_h_ok : ref_Mul_M2_h.OK Tryz.prog (bodyOf Tryz.f107) := ref_Mul_M1_h_ok.add (show codeAt (bodyOf Tryz.f107) [0, 0, 1, 0, 0, 1, 0, 0, 1, 0, 1, 1, 1] = some ((codeAt (bodyOf Tryz.f107) [0, 0, 1, 0, 0, 1, 0, 0, 1, 0, 1, 1, 1]).getD .skip) from by kernel_rfl) ref_Mul_M2_ok
abbrev ref_Mul_L1_R : Type := (Int × Int × Int × Int)
def ref_Mul_L1_fin (v : ref_Mul_L1_R) : Exit × St := ((.exit 0), ⟨[.any, .any, .any, .any, .ptr 0 0 0, .ptr 1 0 0, .any, .any, .any, .any, .any, .any, .any, .any, .any, .any, .any, .any, .any, .any, .any, .any, .any, .any, .any, .any, .any, .any, .any, .any, .any, .any, .any, .any, .any, .any, .any, .any, .any, .any, .any], [.box [.lit (.int .i64 v.1), .lit (.int .i64 v.2.1)], .box [.lit (.int .i64 v.2.2.1), .lit (.int .i64 v.2.2.2)]]⟩)
noncomputable def ref_Mul_L1_t {γ : Type} (s1 : Int) (s7 : Int) (m0_0 : Int) (m0_1 : Int) (m1_0 : Int) (m1_1 : Int) (m2_0 : Int) (m2_1 : Int) (next : ref_Mul_L1_D → Option γ) (out : ref_Mul_L1_R → Option γ) : Option γ := cond (decide (s7 < (64 : Int))) (outOf (ref_Mul_M1 s1 s7 m1_0 m1_1 m2_0 m2_1) fun (x8 : (Int × Int)) => outOf (ref_Mul_M2 s1 s7) fun (x9 : Bool) => cond x9 (outOf (ref_Neg m2_0 m2_1) fun (x10 : (Int × Int)) => outOf (ref_Add (Prod.fst x8) (Prod.snd x8) (Prod.fst x10) (Prod.snd x10)) fun (x11 : (Int × Int)) => outOf (ref_twice m2_0 m2_1) fun (x12 : (Int × Int)) => next (s1, IntKind.wrap IntKind.i64 (s7 + (1 : Int)), m0_0, m0_1, Prod.fst x11, Prod.snd x11, Prod.fst x12, Prod.snd x12)) (outOf (ref_twice m2_0 m2_1) fun (x13 : (Int × Int)) => next (s1, IntKind.wrap IntKind.i64 (s7 + (1 : Int)), m0_0, m0_1, Prod.fst x8, Prod.snd x8, Prod.fst x13, Prod.snd x13))) (out (m0_0, m0_1, m1_0, m1_1))
noncomputable def ref_Mul_L1_pass (d : ref_Mul_L1_D) : Option (ref_Mul_L1_D ⊕ ref_Mul_L1_R) := ref_Mul_L1_t d.1 d.2.1 d.2.2.1 d.2.2.2.1 d.2.2.2.2.1 d.2.2.2.2.2.1 d.2.2.2.2.2.2.1 d.2.2.2.2.2.2.2 (fun d => some (.inl d)) (fun x => some (.inr x))
theorem ref_Mul_L1_t_eq {γ : Type} (s1 : Int) (s7 : Int) (m0_0 : Int) (m0_1 : Int) (m1_0 : Int) (m1_1 : Int) (m2_0 : Int) (m2_1 : Int) (next : ref_Mul_L1_D → Option γ) (out : ref_Mul_L1_R → Option γ) : ref_Mul_L1_t s1 s7 m0_0 m0_1 m1_0 m1_1 m2_0 m2_1 next out = PassOf (ref_Mul_L1_t s1 s7 m0_0 m0_1 m1_0 m1_1 m2_0 m2_1 (fun d => some (.inl d)) (fun x => some (.inr x))) next out := by
  delta ref_Mul_L1_t; exact (Ps.nd (Ps.bd fun x8 => (Ps.bd fun x9 => (Ps.nd (Ps.bd fun x10 => (Ps.bd fun x11 => (Ps.bd fun x12 => Ps.nx))) (Ps.bd fun x13 => Ps.nx)))) Ps.ou)
theorem ref_Mul_L1_ev (α : Type) (d : ref_Mul_L1_D) (next : ref_Mul_L1_D → Option α) (k : Exit → St → Option α) : ev Tryz.prog PzRE4 ref_Mul_M2_h 60 [0, 0, 1, 0, 1, 1, 1] ((codeAt (bodyOf Tryz.f107) [0, 0, 1, 0, 1, 1, 1]).getD .skip) ⟨mkS ref_Mul_L1_A (ref_Mul_L1_ofA d), mkH ref_Mul_L1_H (ref_Mul_L1_ofH d)⟩ (passK 0 ref_Mul_L1_N ref_Mul_L1_A ref_Mul_L1_H ref_Mul_L1_X (fun a m => next (ref_Mul_L1_to a m)) k) = PassOf (ref_Mul_L1_pass d) next fun x => k (ref_Mul_L1_fin x).1 (ref_Mul_L1_fin x).2 := by
  obtain ⟨s1, s7, m0_0, m0_1, m1_0, m1_1, m2_0, m2_1⟩ := d
  exact (show _ = ref_Mul_L1_t s1 s7 m0_0 m0_1 m1_0 m1_1 m2_0 m2_1 next (fun x => k (ref_Mul_L1_fin x).1 (ref_Mul_L1_fin x).2) from by kernel_rfl).trans (ref_Mul_L1_t_eq s1 s7 m0_0 m0_1 m1_0 m1_1 m2_0 m2_1 _ _)
noncomputable def ref_Mul_L1 (d : ref_Mul_L1_D) : Option ref_Mul_L1_R := runs ref_Mul_L1_pass d
noncomputable def ref_Mul_L1_sp : CSpec := fun _ st k => reNorm 0 ref_Mul_L1_N ref_Mul_L1_A ref_Mul_L1_H st fun a m => outOf (ref_Mul_L1 (ref_Mul_L1_to a m)) fun v => k (.exit 0) ⟨[.any, .any, .any, .any, .ptr 0 0 0, .ptr 1 0 0, .any, .any, .any, .any, .any, .any, .any, .any, .any, .any, .any, .any, .any, .any, .any, .any, .any, .any, .any, .any, .any, .any, .any, .any, .any, .any, .any, .any, .any, .any, .any, .any, .any, .any, .any], [.box [.lit (.int .i64 v.1), .lit (.int .i64 v.2.1)], .box [.lit (.int .i64 v.2.2.1), .lit (.int .i64 v.2.2.2)]]⟩
theorem ref_Mul_L1_ok : SumOK Tryz.prog 0 (.loop ((codeAt (bodyOf Tryz.f107) [0, 0, 1, 0, 1, 1, 1]).getD .skip)) ref_Mul_L1_sp := (SumOK.loop PzRE4_ok mixed ref_Mul_M2_h_ok (show codeAt (bodyOf Tryz.f107) [0, 1, 0, 1, 1, 1] = some (.loop ((codeAt (bodyOf Tryz.f107) [0, 0, 1, 0, 1, 1, 1]).getD .skip)) from by kernel_rfl) (N := ref_Mul_L1_N) (Nx := ref_Mul_L1_X) (A := ref_Mul_L1_A) (Hs := ref_Mul_L1_H) (toD := ref_Mul_L1_to) (ofA := ref_Mul_L1_ofA) (ofH := ref_Mul_L1_ofH) (fun _ _ => rfl) (fun _ _ => rfl) (pass := ref_Mul_L1_pass) (fin := ref_Mul_L1_fin) 60 ref_Mul_L1_ev (steps ref_Mul_L1_pass)).mono fun α st k r h => by
  refine Eq.trans (congrArg (reNorm 0 ref_Mul_L1_N ref_Mul_L1_A ref_Mul_L1_H st) ?_) h
  funext a m
  exact outOf_congr fun x => rfl
noncomputable def ref_Mul_L1_h : Hints := ref_Mul_M2_h.add [0, 1, 0, 1, 1, 1] ref_Mul_L1_sp
theorem ref_Mul_L1_h_ok : ref_Mul_L1_h.OK Tryz.prog (bodyOf Tryz.f107) := ref_Mul_M2_h_ok.add (show codeAt (bodyOf Tryz.f107) [0, 1, 0, 1, 1, 1] = some (.loop ((codeAt (bodyOf Tryz.f107) [0, 0, 1, 0, 1, 1, 1]).getD .skip)) from by kernel_rfl) ref_Mul_L1_ok
abbrev ref_Mul_R : Type := (Int × Int)
noncomputable def ref_Mul_t {γ : Type} (a0 : Int) (a1 : Int) (k : ref_Mul_R → Option γ) : Option γ := outOf (ref_Of a0) fun (x14 : (Int × Int)) => outOf (ref_Mul_L1 (a1, (0 : Int), (0 : Int), (0 : Int), (0 : Int), (0 : Int), Prod.fst x14, Prod.snd x14)) fun (x15 : (Int × (Int × (Int × Int)))) => k (Prod.fst (Prod.snd (Prod.snd x15)), Prod.snd (Prod.snd (Prod.snd x15)))
noncomputable def ref_Mul (a0 : Int) (a1 : Int) : Option ref_Mul_R := ref_Mul_t a0 a1 some
theorem ref_Mul_t_eq {γ : Type} (a0 : Int) (a1 : Int) (k : ref_Mul_R → Option γ) : ref_Mul_t a0 a1 k = outOf (ref_Mul a0 a1) k := by
  delta ref_Mul ref_Mul_t; exact (Tr.bd fun x14 => (Tr.bd fun x15 => Tr.lf))
noncomputable def ref_Mul_sp : TX.Spec := specD [.val (.int .i64), .val (.int .i64)] [] fun _ a m k => match a, m with | ⟨a0, a1, _⟩, _ => outOf (ref_Mul a0 a1) fun v => k (.agg [.lit (.int .i64 v.1), .lit (.int .i64 v.2)]) []
theorem ref_Mul_ev {α : Type} (a0 : Int) (a1 : Int) (k : Kont α) : evFun Tryz.prog PzRE4 (ref_Mul_L1_h) false Tryz.f107 (bodyOf Tryz.f107) 60 (mkS [.val (.int .i64), .val (.int .i64)] (a0, a1, ())) (mkH [] ()) k = outOf (ref_Mul a0 a1) fun v => k (.agg [.lit (.int .i64 v.1), .lit (.int .i64 v.2)]) [] :=
  (show _ = ref_Mul_t a0 a1 (fun v => k (.agg [.lit (.int .i64 v.1), .lit (.int .i64 v.2)]) []) from by kernel_rfl).trans (ref_Mul_t_eq a0 a1 _)
theorem ref_Mul_good : TX.Good Tryz.prog 107 ref_Mul_sp := good_form PzRE4_ok mixed Tryz.func107 (body_of rfl) (by kernel_rfl) false fun α a m k r h => by
  obtain ⟨a0, a1, _⟩ := a; obtain _ := m
  exact ⟨ref_Mul_L1_h, 60, ref_Mul_L1_h_ok, rfl, (ref_Mul_ev a0 a1 k).trans h⟩
def ref_divide_h0 : Hints := Hints.nil 0
theorem ref_divide_h0_ok : ref_divide_h0.OK Tryz.prog (bodyOf Tryz.f136) := Hints.nil_ok
def ref_divide_L1_A : List SD := [.any, .any, .any, .any, .any, .loc 0 0 0, .loc 1 0 0, .val (.sl (.int .i64)), .rowz 2, .loc 3 0 0, .val (.int .i64), .any, .any, .any, .any, .any, .any, .any, .any, .any, .any, .any, .any, .any, .any, .any, .any, .any, .any, .any, .any, .any, .any, .any, .any, .any, .any, .any, .any, .any, .any, .any, .any, .any]
def ref_divide_L1_H : List HD := [.box [.val (.int .i64), .val (.int .i64)], .box [.val (.int .i64), .val (.int .i64)], .row (.int .i64), .box [.val (.int .i64), .val (.int .i64)]]
abbrev ref_divide_L1_D : Type := (List Int) × Nat × Int × Int × Int × Int × Int × (List Int) × Int × Int
def ref_divide_L1_to (a : DenS ref_divide_L1_A) (m : DenH ref_divide_L1_H) : ref_divide_L1_D := (a.2.2.2.2.2.2.2.1, a.2.2.2.2.2.2.2.2.1, a.2.2.2.2.2.2.2.2.2.2.1, m.1.1, m.1.2.1, m.2.1.1, m.2.1.2.1, m.2.2.1, m.2.2.2.1.1, m.2.2.2.1.2.1)
def ref_divide_L1_ofA (d : ref_divide_L1_D) : DenS ref_divide_L1_A := match d with | (s7, s8_n, s10, m0_0, m0_1, m1_0, m1_1, m2, m3_0, m3_1) => ((), (), (), (), (), (), (), s7, s8_n, (), s10, (), (), (), (), (), (), (), (), (), (), (), (), (), (), (), (), (), (), (), (), (), (), (), (), (), (), (), (), (), (), (), (), (), ())
def ref_divide_L1_ofH (d : ref_divide_L1_D) : DenH ref_divide_L1_H := match d with | (s7, s8_n, s10, m0_0, m0_1, m1_0, m1_1, m2, m3_0, m3_1) => ((m0_0, m0_1, ()), (m1_0, m1_1, ()), m2, (m3_0, m3_1, ()), ())
def ref_divide_L1_N : Norm := (⟨[5, 6, 7, 8, 9, 10], [], []⟩ : Go.TX.Norm)
def ref_divide_L1_X : Exit → Norm := fun e => match e with | .exit 0 => ⟨[5, 6, 8], [], []⟩ | _ => ⟨[], [], []⟩
abbrev ref_divide_L1_R : Type := (Nat × Int × Int × Int × Int × (List Int))
def ref_divide_L1_fin (v : ref_divide_L1_R) : Exit × St := ((.exit 0), ⟨[.any, .any, .any, .any, .any, .ptr 0 0 0, .ptr 1 0 0, .any, .msl 2 0 v.1, .any, .any, .any, .any, .any, .any, .any, .any, .any, .any, .any, .any, .any, .any, .any, .any, .any, .any, .any, .any, .any, .any, .any, .any, .any, .any, .any, .any, .any, .any, .any, .any, .any, .any, .any], [.box [.lit (.int .i64 v.2.1), .lit (.int .i64 v.2.2.1)], .box [.lit (.int .i64 v.2.2.2.1), .lit (.int .i64 v.2.2.2.2.1)], .row (.int .i64) v.2.2.2.2.2]⟩)
noncomputable def ref_divide_L1_t {γ : Type} (s7 : (List Int)) (s8_n : Nat) (s10 : Int) (m0_0 : Int) (m0_1 : Int) (m1_0 : Int) (m1_1 : Int) (m2 : (List Int)) (m3_0 : Int) (m3_1 : Int) (next : ref_divide_L1_D → Option γ) (out : ref_divide_L1_R → Option γ) : Option γ := cond (decide (s10 ≥ (0 : Int))) (outOf (ref_twice m1_0 m1_1) fun (x3 : (Int × Int)) => cond (decide ((0 : Int) ≤ s10 ∧ s10 < (↑(List.length s7) : Int))) (outOf (ref_Add (Prod.fst x3) (Prod.snd x3) (List.getD s7 (Int.toNat s10) (0 : Int)) (0 : Int)) fun (x4 : (Int × Int)) => outOf (ref_less (Prod.fst x4) (Prod.snd x4) m3_0 m3_1) fun (x5 : Bool) => cond (!x5) (outOf (ref_Neg m3_0 m3_1) fun (x6 : (Int × Int)) => outOf (ref_Add (Prod.fst x4) (Prod.snd x4) (Prod.fst x6) (Prod.snd x6)) fun (x7 : (Int × Int)) => cond (decide ((0 : Int) ≤ s10 ∧ s10 < (↑s8_n : Int))) (next (s7, s8_n, IntKind.wrap IntKind.i64 (s10 - (1 : Int)), m0_0, m0_1, Prod.fst x7, Prod.snd x7, List.set m2 ((0 : Nat) + Int.toNat s10) (1 : Int), m3_0, m3_1)) (none)) (next (s7, s8_n, IntKind.wrap IntKind.i64 (s10 - (1 : Int)), m0_0, m0_1, Prod.fst x4, Prod.snd x4, m2, m3_0, m3_1))) (none)) (out (s8_n, m0_0, m0_1, m1_0, m1_1, m2))
noncomputable def ref_divide_L1_pass (d : ref_divide_L1_D) : Option (ref_divide_L1_D ⊕ ref_divide_L1_R) := ref_divide_L1_t d.1 d.2.1 d.2.2.1 d.2.2.2.1 d.2.2.2.2.1 d.2.2.2.2.2.1 d.2.2.2.2.2.2.1 d.2.2.2.2.2.2.2.1 d.2.2.2.2.2.2.2.2.1 d.2.2.2.2.2.2.2.2.2 (fun d => some (.inl d)) (fun x => some (.inr x))
theorem ref_divide_L1_t_eq {γ : Type} (s7 : (List Int)) (s8_n : Nat) (s10 : Int) (m0_0 : Int) (m0_1 : Int) (m1_0 : Int) (m1_1 : Int) (m2 : (List Int)) (m3_0 : Int) (m3_1 : Int) (next : ref_divide_L1_D → Option γ) (out : ref_divide_L1_R → Option γ) : ref_divide_L1_t s7 s8_n s10 m0_0 m0_1 m1_0 m1_1 m2 m3_0 m3_1 next out = PassOf (ref_divide_L1_t s7 s8_n s10 m0_0 m0_1 m1_0 m1_1 m2 m3_0 m3_1 (fun d => some (.inl d)) (fun x => some (.inr x))) next out := by
  delta ref_divide_L1_t; exact (Ps.nd (Ps.bd fun x3 => (Ps.nd (Ps.bd fun x4 => (Ps.bd fun x5 => (Ps.nd (Ps.bd fun x6 => (Ps.bd fun x7 => (Ps.nd Ps.nx Ps.no))) Ps.nx))) Ps.no)) Ps.ou)
theorem ref_divide_L1_ev (α : Type) (d : ref_divide_L1_D) (next : ref_divide_L1_D → Option α) (k : Exit → St → Option α) : ev Tryz.prog PzRE4 ref_divide_h0 60 [0, 0, 1, 0, 1, 1, 1, 1, 1] ((codeAt (bodyOf Tryz.f136) [0, 0, 1, 0, 1, 1, 1, 1, 1]).getD .skip) ⟨mkS ref_divide_L1_A (ref_divide_L1_ofA d), mkH ref_divide_L1_H (ref_divide_L1_ofH d)⟩ (passK 0 ref_divide_L1_N ref_divide_L1_A ref_divide_L1_H ref_divide_L1_X (fun a m => next (ref_divide_L1_to a m)) k) = PassOf (ref_divide_L1_pass d) next fun x => k (ref_divide_L1_fin x).1 (ref_divide_L1_fin x).2 := by
  obtain ⟨s7, s8_n, s10, m0_0, m0_1, m1_0, m1_1, m2, m3_0, m3_1⟩ := d
  exact (show _ = ref_divide_L1_t s7 s8_n s10 m0_0 m0_1 m1_0 m1_1 m2 m3_0 m3_1 next (fun x => k (ref_divide_L1_fin x).1 (ref_divide_L1_fin x).2) from by kernel_rfl).trans (ref_divide_L1_t_eq s7 s8_n s10 m0_0 m0_1 m1_0 m1_1 m2 m3_0 m3_1 _ _)
noncomputable def ref_divide_L1 (d : ref_divide_L1_D) : Option ref_divide_L1_R := runs ref_divide_L1_pass d
noncomputable def ref_divide_L1_sp : CSpec := fun _ st k => reNorm 0 ref_divide_L1_N ref_divide_L1_A ref_divide_L1_H st fun a m => outOf (ref_divide_L1 (ref_divide_L1_to a m)) fun v => k (.exit 0) ⟨[.any, .any, .any, .any, .any, .ptr 0 0 0, .ptr 1 0 0, .any, .msl 2 0 v.1, .any, .any, .any, .any, .any, .any, .any, .any, .any, .any, .any, .any, .any, .any, .any, .any, .any, .any, .any, .any, .any, .any, .any, .any, .any, .any, .any, .any, .any, .any, .any, .any, .any, .any, .any], [.box [.lit (.int .i64 v.2.1), .lit (.int .i64 v.2.2.1)], .box [.lit (.int .i64 v.2.2.2.1), .lit (.int .i64 v.2.2.2.2.1)], .row (.int .i64) v.2.2.2.2.2]⟩
theorem ref_divide_L1_ok : SumOK Tryz.prog 0 (.loop ((codeAt (bodyOf Tryz.f136) [0, 0, 1, 0, 1, 1, 1, 1, 1]).getD .skip)) ref_divide_L1_sp := (SumOK.loop PzRE4_ok mixed ref_divide_h0_ok (show codeAt (bodyOf Tryz.f136) [0, 1, 0, 1, 1, 1, 1, 1] = some (.loop ((codeAt (bodyOf Tryz.f136) [0, 0, 1, 0, 1, 1, 1, 1, 1]).getD .skip)) from by kernel_rfl) (N := ref_divide_L1_N) (Nx := ref_divide_L1_X) (A := ref_divide_L1_A) (Hs := ref_divide_L1_H) (toD := ref_divide_L1_to) (ofA := ref_divide_L1_ofA) (ofH := ref_divide_L1_ofH) (fun _ _ => rfl) (fun _ _ => rfl) (pass := ref_divide_L1_pass) (fin := ref_divide_L1_fin) 60 ref_divide_L1_ev (steps ref_divide_L1_pass)).mono fun α st k r h => by
  refine Eq.trans (congrArg (reNorm 0 ref_divide_L1_N ref_divide_L1_A ref_divide_L1_H st) ?_) h
  funext a m
  exact outOf_congr fun x => rfl
noncomputable def ref_divide_L1_h : Hints := ref_divide_h0.add [0, 1, 0, 1, 1, 1, 1, 1] ref_divide_L1_sp
theorem ref_divide_L1_h_ok : ref_divide_L1_h.OK Tryz.prog (bodyOf Tryz.f136) := ref_divide_h0_ok.add (show codeAt (bodyOf Tryz.f136) [0, 1, 0, 1, 1, 1, 1, 1] = some (.loop ((codeAt (bodyOf Tryz.f136) [0, 0, 1, 0, 1, 1, 1, 1, 1]).getD .skip)) from by kernel_rfl) ref_divide_L1_ok
abbrev ref_divide_R : Type := (Int × Int × Int)
noncomputable def ref_divide_t {γ : Type} (a0_0 : Int) (a0_1 : Int) (a1 : Int) (k : ref_divide_R → Option γ) : Option γ := outOf (ref_bits a0_0 a0_1) fun (x8 : (List Int)) => outOf (ref_divide_L1 (x8, (128 : Nat), (127 : Int), (0 : Int), (0 : Int), (0 : Int), (0 : Int), List.replicate (128 : Nat) (0 : Int), a1, (0 : Int))) fun (x9 : (Nat × (Int × (Int × (Int × (Int × (List Int))))))) => outOf (ref_make2 (List.take (Prod.fst x9) (List.drop (0 : Nat) (Prod.snd (Prod.snd (Prod.snd (Prod.snd (Prod.snd x9)))))))) fun (x10 : (Int × Int)) => k (Prod.fst (Prod.snd (Prod.snd (Prod.snd x9))), Prod.fst x10, Prod.snd x10)
noncomputable def ref_divide (a0_0 : Int) (a0_1 : Int) (a1 : Int) : Option ref_divide_R := ref_divide_t a0_0 a0_1 a1 some
theorem ref_divide_t_eq {γ : Type} (a0_0 : Int) (a0_1 : Int) (a1 : Int) (k : ref_divide_R → Option γ) : ref_divide_t a0_0 a0_1 a1 k = outOf (ref_divide a0_0 a0_1 a1) k := by
  delta ref_divide ref_divide_t; exact (Tr.bd fun x8 => (Tr.bd fun x9 => (Tr.bd fun x10 => Tr.lf)))
noncomputable def ref_divide_sp : TX.Spec := specD [.agg (.pair (.int .i64) (.int .i64)), .val (.int .i64)] [] fun _ a m k => match a, m with | ⟨⟨a0_0, a0_1⟩, a1, _⟩, _ => outOf (ref_divide a0_0 a0_1 a1) fun v => k (.tup [.lit (.int .i64 v.1), .agg [.lit (.int .i64 v.2.1), .lit (.int .i64 v.2.2)]]) []
theorem ref_divide_ev {α : Type} (a0_0 : Int) (a0_1 : Int) (a1 : Int) (k : Kont α) : evFun Tryz.prog PzRE4 (ref_divide_L1_h) false Tryz.f136 (bodyOf Tryz.f136) 60 (mkS [.agg (.pair (.int .i64) (.int .i64)), .val (.int .i64)] ((a0_0, a0_1), a1, ())) (mkH [] ()) k = outOf (ref_divide a0_0 a0_1 a1) fun v => k (.tup [.lit (.int .i64 v.1), .agg [.lit (.int .i64 v.2.1), .lit (.int .i64 v.2.2)]]) [] :=
  (show _ = ref_divide_t a0_0 a0_1 a1 (fun v => k (.tup [.lit (.int .i64 v.1), .agg [.lit (.int .i64 v.2.1), .lit (.int .i64 v.2.2)]]) []) from by kernel_rfl).trans (ref_divide_t_eq a0_0 a0_1 a1 _)
theorem ref_divide_good : TX.Good Tryz.prog 136 ref_divide_sp := good_form PzRE4_ok mixed Tryz.func136 (body_of rfl) (by kernel_rfl) false fun α a m k r h => by
  obtain ⟨⟨a0_0, a0_1⟩, a1, _⟩ := a; obtain _ := m
  exact ⟨ref_divide_L1_h, 60, ref_divide_L1_h_ok, rfl, (ref_divide_ev a0_0 a0_1 a1 k).trans h⟩
noncomputable def PzRE5 : Env := PzRE4.add 106 true ref_UMul_sp |>.add 107 true ref_Mul_sp |>.add 136 true ref_divide_sp
theorem PzRE5_ok : PzRE5.OK Tryz.prog := (((PzRE4_ok).add_ok ref_UMul_good).add_ok ref_Mul_good).add_ok ref_divide_good
end Go.Proofs.Dbl
