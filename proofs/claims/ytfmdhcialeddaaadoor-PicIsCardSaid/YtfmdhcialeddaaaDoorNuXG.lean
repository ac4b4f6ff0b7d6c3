import Derived.Test.YtfmdhcialeddaaaDoorNuXF
namespace Go.Proofs.Dbl
open Go Go.TX Go.Proofs
set_option maxRecDepth 100000
set_option linter.unusedVariables false
set_option maxHeartbeats 0
def ref_Bit_h0 : Hints := Hints.nil 0
theorem ref_Bit_h0_ok : ref_Bit_h0.OK Tryd.prog (bodyOf Tryd.f134) := Hints.nil_ok
abbrev ref_Bit_R : Type := (Int)
noncomputable def ref_Bit_t {γ : Type} (a0 : Int) (a1 : Int) (k : ref_Bit_R → Option γ) : Option γ := cond (decide (a1 < (0 : Int))) (k ((0 : Int))) (cond (decide (a1 > (63 : Int))) (k ((0 : Int))) (cond (decide (IntKind.wrap IntKind.u64 a1 < (0 : Int))) (none) (k (IntKind.wrap IntKind.i64 (ibits BinOp.and IntKind.u64 (Int.fdiv (IntKind.wrap IntKind.u64 a0) ((2 : Int) ^ min (Int.toNat (IntKind.wrap IntKind.u64 a1)) (64 : Nat))) (1 : Int))))))
noncomputable def ref_Bit (a0 : Int) (a1 : Int) : Option ref_Bit_R := ref_Bit_t a0 a1 some
theorem ref_Bit_t_eq {γ : Type} (a0 : Int) (a1 : Int) (k : ref_Bit_R → Option γ) : ref_Bit_t a0 a1 k = outOf (ref_Bit a0 a1) k := by
  delta ref_Bit ref_Bit_t; exact (Tr.nd Tr.lf (Tr.nd Tr.lf (Tr.nd Tr.no Tr.lf)))
noncomputable def ref_Bit_sp : TX.Spec := specD [.val (.int .i64), .val (.int .i64)] [] fun _ a m k => match a, m with | ⟨a0, a1, _⟩, _ => outOf (ref_Bit a0 a1) fun v => k (.lit (.int .i64 v)) []
theorem ref_Bit_ev {α : Type} (a0 : Int) (a1 : Int) (k : Kont α) : evFun Tryd.prog NrFE1 (ref_Bit_h0) false Tryd.f134 (bodyOf Tryd.f134) 60 (mkS [.val (.int .i64), .val (.int .i64)] (a0, a1, ())) (mkH [] ()) k = outOf (ref_Bit a0 a1) fun v => k (.lit (.int .i64 v)) [] :=
  (show _ = ref_Bit_t a0 a1 (fun v => k (.lit (.int .i64 v)) []) from by kernel_rfl).trans (ref_Bit_t_eq a0 a1 _)
theorem ref_Bit_good : TX.Good Tryd.prog 134 ref_Bit_sp := good_form NrFE1_ok mixed Tryd.func134 (body_of rfl) (by kernel_rfl) false fun α a m k r h => by
  obtain ⟨a0, a1, _⟩ := a; obtain _ := m
  exact ⟨ref_Bit_h0, 60, ref_Bit_h0_ok, rfl, (ref_Bit_ev a0 a1 k).trans h⟩
def ref_Make_h0 : Hints := Hints.nil 0
theorem ref_Make_h0_ok : ref_Make_h0.OK Tryd.prog (bodyOf Tryd.f135) := Hints.nil_ok
def ref_Make_L1_A : List SD := [.val (.sl (.int .i64)), .any, .any, .val (.int .u64), .val (.int .i64), .any, .any, .any, .any, .any, .any, .any, .any, .any, .any, .any, .any, .any, .any, .any, .any, .any, .any, .any]
def ref_Make_L1_H : List HD := []
abbrev ref_Make_L1_D : Type := (List Int) × Int × Int
def ref_Make_L1_to (a : DenS ref_Make_L1_A) (m : DenH ref_Make_L1_H) : ref_Make_L1_D := (a.1, a.2.2.2.1, a.2.2.2.2.1)
def ref_Make_L1_ofA (d : ref_Make_L1_D) : DenS ref_Make_L1_A := match d with | (s0, s3, s4) => (s0, (), (), s3, s4, (), (), (), (), (), (), (), (), (), (), (), (), (), (), (), (), (), (), (), ())
def ref_Make_L1_ofH (d : ref_Make_L1_D) : DenH ref_Make_L1_H := match d with | (s0, s3, s4) => ()
def ref_Make_L1_N : Norm := (⟨[0, 3, 4], [], []⟩ : Go.TX.Norm)
def ref_Make_L1_X : Exit → Norm := fun e => match e with | .exit 0 => ⟨[3], [], []⟩ | _ => ⟨[], [], []⟩
abbrev ref_Make_L1_R : Type := (Int)
def ref_Make_L1_fin (v : ref_Make_L1_R) : Exit × St := ((.exit 0), ⟨[.any, .any, .any, .lit (.int .u64 v), .any, .any, .any, .any, .any, .any, .any, .any, .any, .any, .any, .any, .any, .any, .any, .any, .any, .any, .any, .any], []⟩)
noncomputable def ref_Make_L1_t {γ : Type} (s0 : (List Int)) (s3 : Int) (s4 : Int) (next : ref_Make_L1_D → Option γ) (out : ref_Make_L1_R → Option γ) : Option γ := cond (decide (s4 ≥ (0 : Int))) (cond (decide ((0 : Int) ≤ s4 ∧ s4 < (↑(List.length s0) : Int))) (next (s0, IntKind.wrap IntKind.u64 (IntKind.wrap IntKind.u64 (s3 * (2 : Int)) + IntKind.wrap IntKind.u64 (ibits BinOp.and IntKind.i64 (List.getD s0 (Int.toNat s4) (0 : Int)) (1 : Int))), IntKind.wrap IntKind.i64 (s4 - (1 : Int)))) (none)) (out (s3))
noncomputable def ref_Make_L1_pass (d : ref_Make_L1_D) : Option (ref_Make_L1_D ⊕ ref_Make_L1_R) := ref_Make_L1_t d.1 d.2.1 d.2.2 (fun d => some (.inl d)) (fun x => some (.inr x))
theorem ref_Make_L1_t_eq {γ : Type} (s0 : (List Int)) (s3 : Int) (s4 : Int) (next : ref_Make_L1_D → Option γ) (out : ref_Make_L1_R → Option γ) : ref_Make_L1_t s0 s3 s4 next out = PassOf (ref_Make_L1_t s0 s3 s4 (fun d => some (.inl d)) (fun x => some (.inr x))) next out := by
  delta ref_Make_L1_t; exact (Ps.nd (Ps.nd Ps.nx Ps.no) Ps.ou)
theorem ref_Make_L1_ev (α : Type) (d : ref_Make_L1_D) (next : ref_Make_L1_D → Option α) (k : Exit → St → Option α) : ev Tryd.prog NrFE1 ref_Make_h0 60 [0, 0, 1, 0, 1, 1] ((codeAt (bodyOf Tryd.f135) [0, 0, 1, 0, 1, 1]).getD .skip) ⟨mkS ref_Make_L1_A (ref_Make_L1_ofA d), mkH ref_Make_L1_H (ref_Make_L1_ofH d)⟩ (passK 0 ref_Make_L1_N ref_Make_L1_A ref_Make_L1_H ref_Make_L1_X (fun a m => next (ref_Make_L1_to a m)) k) = PassOf (ref_Make_L1_pass d) next fun x => k (ref_Make_L1_fin x).1 (ref_Make_L1_fin x).2 := by
  obtain ⟨s0, s3, s4⟩ := d
  exact (show _ = ref_Make_L1_t s0 s3 s4 next (fun x => k (ref_Make_L1_fin x).1 (ref_Make_L1_fin x).2) from by kernel_rfl).trans (ref_Make_L1_t_eq s0 s3 s4 _ _)
noncomputable def ref_Make_L1 (d : ref_Make_L1_D) : Option ref_Make_L1_R := runs ref_Make_L1_pass d
noncomputable def ref_Make_L1_sp : CSpec := fun _ st k => reNorm 0 ref_Make_L1_N ref_Make_L1_A ref_Make_L1_H st fun a m => outOf (ref_Make_L1 (ref_Make_L1_to a m)) fun v => k (.exit 0) ⟨[.any, .any, .any, .lit (.int .u64 v), .any, .any, .any, .any, .any, .any, .any, .any, .any, .any, .any, .any, .any, .any, .any, .any, .any, .any, .any, .any], []⟩
theorem ref_Make_L1_ok : SumOK Tryd.prog 0 (.loop ((codeAt (bodyOf Tryd.f135) [0, 0, 1, 0, 1, 1]).getD .skip)) ref_Make_L1_sp := (SumOK.loop NrFE1_ok mixed ref_Make_h0_ok (show codeAt (bodyOf Tryd.f135) [0, 1, 0, 1, 1] = some (.loop ((codeAt (bodyOf Tryd.f135) [0, 0, 1, 0, 1, 1]).getD .skip)) from by kernel_rfl) (N := ref_Make_L1_N) (Nx := ref_Make_L1_X) (A := ref_Make_L1_A) (Hs := ref_Make_L1_H) (toD := ref_Make_L1_to) (ofA := ref_Make_L1_ofA) (ofH := ref_Make_L1_ofH) (fun _ _ => rfl) (fun _ _ => rfl) (pass := ref_Make_L1_pass) (fin := ref_Make_L1_fin) 60 ref_Make_L1_ev (steps ref_Make_L1_pass)).mono fun α st k r h => by
  refine Eq.trans (congrArg (reNorm 0 ref_Make_L1_N ref_Make_L1_A ref_Make_L1_H st) ?_) h
  funext a m
  exact outOf_congr fun x => rfl
noncomputable def ref_Make_L1_h : Hints := ref_Make_h0.add [0, 1, 0, 1, 1] ref_Make_L1_sp
theorem ref_Make_L1_h_ok : ref_Make_L1_h.OK Tryd.prog (bodyOf Tryd.f135) := ref_Make_h0_ok.add (show codeAt (bodyOf Tryd.f135) [0, 1, 0, 1, 1] = some (.loop ((codeAt (bodyOf Tryd.f135) [0, 0, 1, 0, 1, 1]).getD .skip)) from by kernel_rfl) ref_Make_L1_ok
abbrev ref_Make_R : Type := (Int)
noncomputable def ref_Make_t {γ : Type} (a0 : (List Int)) (k : ref_Make_R → Option γ) : Option γ := outOf (ref_Make_L1 (a0, (0 : Int), IntKind.wrap IntKind.i64 ((if (64 : Int) < (↑(List.length a0) : Int) then (64 : Int) else (↑(List.length a0) : Int)) - (1 : Int)))) fun (x1 : Int) => k (IntKind.wrap IntKind.i64 x1)
noncomputable def ref_Make (a0 : (List Int)) : Option ref_Make_R := ref_Make_t a0 some
theorem ref_Make_t_eq {γ : Type} (a0 : (List Int)) (k : ref_Make_R → Option γ) : ref_Make_t a0 k = outOf (ref_Make a0) k := by
  delta ref_Make ref_Make_t; exact (Tr.bd fun x1 => Tr.lf)
noncomputable def ref_Make_sp : TX.Spec := specD [.val (.sl (.int .i64))] [] fun _ a m k => match a, m with | ⟨a0, _⟩, _ => outOf (ref_Make a0) fun v => k (.lit (.int .i64 v)) []
theorem ref_Make_ev {α : Type} (a0 : (List Int)) (k : Kont α) : evFun Tryd.prog NrFE1 (ref_Make_L1_h) false Tryd.f135 (bodyOf Tryd.f135) 60 (mkS [.val (.sl (.int .i64))] (a0, ())) (mkH [] ()) k = outOf (ref_Make a0) fun v => k (.lit (.int .i64 v)) [] :=
  (show _ = ref_Make_t a0 (fun v => k (.lit (.int .i64 v)) []) from by kernel_rfl).trans (ref_Make_t_eq a0 _)
theorem ref_Make_good : TX.Good Tryd.prog 135 ref_Make_sp := good_form NrFE1_ok mixed Tryd.func135 (body_of rfl) (by kernel_rfl) false fun α a m k r h => by
  obtain ⟨a0, _⟩ := a; obtain _ := m
  exact ⟨ref_Make_L1_h, 60, ref_Make_L1_h_ok, rfl, (ref_Make_ev a0 k).trans h⟩
def r5_Sign_h0 : Hints := Hints.nil 0
theorem r5_Sign_h0_ok : r5_Sign_h0.OK Tryd.prog (bodyOf Tryd.f21) := Hints.nil_ok
abbrev r5_Sign_R : Type := (ByteArray)
noncomputable def r5_Sign_t {γ : Type} (a0 : Int) (k : r5_Sign_R → Option γ) : Option γ := cond (decide (a0 < (0 : Int))) (k (bytesOf [])) (cond (decide (a0 > (35 : Int))) (k (bytesOf [])) (cond (decide ((0 : Int) ≤ a0 ∧ a0 ≤ IntKind.wrap IntKind.i64 (a0 + (1 : Int)) ∧ IntKind.wrap IntKind.i64 (a0 + (1 : Int)) ≤ (36 : Int))) (k (ByteArray.extract (bytesOf [48, 49, 50, 51, 52, 53, 54, 55, 56, 57, 65, 66, 67, 68, 69, 70, 71, 72, 73, 74, 75, 76, 77, 78, 79, 80, 81, 82, 83, 84, 85, 86, 87, 88, 89, 90]) (Int.toNat a0) (Int.toNat (IntKind.wrap IntKind.i64 (a0 + (1 : Int)))))) (none)))
noncomputable def r5_Sign (a0 : Int) : Option r5_Sign_R := r5_Sign_t a0 some
theorem r5_Sign_t_eq {γ : Type} (a0 : Int) (k : r5_Sign_R → Option γ) : r5_Sign_t a0 k = outOf (r5_Sign a0) k := by
  delta r5_Sign r5_Sign_t; exact (Tr.nd Tr.lf (Tr.nd Tr.lf (Tr.nd Tr.lf Tr.no)))
noncomputable def r5_Sign_sp : TX.Spec := specD [.val (.int .i64)] [] fun _ a m k => match a, m with | ⟨a0, _⟩, _ => outOf (r5_Sign a0) fun v => k (.lit (.string v)) []
theorem r5_Sign_ev {α : Type} (a0 : Int) (k : Kont α) : evFun Tryd.prog NrFE1 (r5_Sign_h0) false Tryd.f21 (bodyOf Tryd.f21) 60 (mkS [.val (.int .i64)] (a0, ())) (mkH [] ()) k = outOf (r5_Sign a0) fun v => k (.lit (.string v)) [] :=
  (show _ = r5_Sign_t a0 (fun v => k (.lit (.string v)) []) from by kernel_rfl).trans (r5_Sign_t_eq a0 _)
theorem r5_Sign_good : TX.Good Tryd.prog 21 r5_Sign_sp := good_form NrFE1_ok mixed Tryd.func21 (body_of rfl) (by kernel_rfl) false fun α a m k r h => by
  obtain ⟨a0, _⟩ := a; obtain _ := m
  exact ⟨r5_Sign_h0, 60, r5_Sign_h0_ok, rfl, (r5_Sign_ev a0 k).trans h⟩
noncomputable def NrGE1 : Env := NrFE1.add 134 true ref_Bit_sp |>.add 135 true ref_Make_sp |>.add 21 true r5_Sign_sp
theorem NrGE1_ok : NrGE1.OK Tryd.prog := (((NrFE1_ok).add_ok ref_Bit_good).add_ok ref_Make_good).add_ok r5_Sign_good
def ref_bits_h0 : Hints := Hints.nil 0
theorem ref_bits_h0_ok : ref_bits_h0.OK Tryd.prog (bodyOf Tryd.f116) := Hints.nil_ok
def ref_bits_L1_A : List SD := [.any, .loc 0 0 0, .any, .rowz 1, .val (.int .i64), .any, .any, .any, .any, .any, .any, .any, .any, .any, .any, .any, .any, .any, .any, .any, .any, .any, .any, .any, .any, .any, .any, .any, .any]
def ref_bits_L1_H : List HD := [.box [.val (.int .i64), .val (.int .i64)], .row (.int .i64)]
abbrev ref_bits_L1_D : Type := Nat × Int × Int × Int × (List Int)
def ref_bits_L1_to (a : DenS ref_bits_L1_A) (m : DenH ref_bits_L1_H) : ref_bits_L1_D := (a.2.2.2.1, a.2.2.2.2.1, m.1.1, m.1.2.1, m.2.1)
def ref_bits_L1_ofA (d : ref_bits_L1_D) : DenS ref_bits_L1_A := match d with | (s3_n, s4, m0_0, m0_1, m1) => ((), (), (), s3_n, s4, (), (), (), (), (), (), (), (), (), (), (), (), (), (), (), (), (), (), (), (), (), (), (), (), ())
def ref_bits_L1_ofH (d : ref_bits_L1_D) : DenH ref_bits_L1_H := match d with | (s3_n, s4, m0_0, m0_1, m1) => ((m0_0, m0_1, ()), m1, ())
def ref_bits_L1_N : Norm := (⟨[1, 3, 4], [3], []⟩ : Go.TX.Norm)
def ref_bits_L1_X : Exit → Norm := fun e => match e with | .exit 0 => ⟨[1, 3], [], []⟩ | _ => ⟨[], [], []⟩
abbrev ref_bits_L1_R : Type := (Nat × Int × Int × (List Int))
def ref_bits_L1_fin (v : ref_bits_L1_R) : Exit × St := ((.exit 0), ⟨[.any, .ptr 0 0 0, .any, .msl 1 0 v.1, .any, .any, .any, .any, .any, .any, .any, .any, .any, .any, .any, .any, .any, .any, .any, .any, .any, .any, .any, .any, .any, .any, .any, .any, .any], [.box [.lit (.int .i64 v.2.1), .lit (.int .i64 v.2.2.1)], .row (.int .i64) v.2.2.2]⟩)
noncomputable def ref_bits_L1_t {γ : Type} (s3_n : Nat) (s4 : Int) (m0_0 : Int) (m0_1 : Int) (m1 : (List Int)) (next : ref_bits_L1_D → Option γ) (out : ref_bits_L1_R → Option γ) : Option γ := cond (decide (s4 < (64 : Int))) (outOf (ref_Bit m0_0 s4) fun (x1 : Int) => cond (decide (s3_n + List.length [x1] ≤ (2147483648 : Nat))) (next (s3_n + List.length [x1], IntKind.wrap IntKind.i64 (s4 + (1 : Int)), m0_0, m0_1, List.take s3_n (List.drop (0 : Nat) m1) ++ [x1])) (none)) (out (s3_n, m0_0, m0_1, m1))
noncomputable def ref_bits_L1_pass (d : ref_bits_L1_D) : Option (ref_bits_L1_D ⊕ ref_bits_L1_R) := ref_bits_L1_t d.1 d.2.1 d.2.2.1 d.2.2.2.1 d.2.2.2.2 (fun d => some (.inl d)) (fun x => some (.inr x))
theorem ref_bits_L1_t_eq {γ : Type} (s3_n : Nat) (s4 : Int) (m0_0 : Int) (m0_1 : Int) (m1 : (List Int)) (next : ref_bits_L1_D → Option γ) (out : ref_bits_L1_R → Option γ) : ref_bits_L1_t s3_n s4 m0_0 m0_1 m1 next out = PassOf (ref_bits_L1_t s3_n s4 m0_0 m0_1 m1 (fun d => some (.inl d)) (fun x => some (.inr x))) next out := by
  delta ref_bits_L1_t; exact (Ps.nd (Ps.bd fun x1 => (Ps.nd Ps.nx Ps.no)) Ps.ou)
theorem ref_bits_L1_ev (α : Type) (d : ref_bits_L1_D) (next : ref_bits_L1_D → Option α) (k : Exit → St → Option α) : ev Tryd.prog NrGE1 ref_bits_h0 60 [0, 0, 1, 0, 1, 1] ((codeAt (bodyOf Tryd.f116) [0, 0, 1, 0, 1, 1]).getD .skip) ⟨mkS ref_bits_L1_A (ref_bits_L1_ofA d), mkH ref_bits_L1_H (ref_bits_L1_ofH d)⟩ (passK 0 ref_bits_L1_N ref_bits_L1_A ref_bits_L1_H ref_bits_L1_X (fun a m => next (ref_bits_L1_to a m)) k) = PassOf (ref_bits_L1_pass d) next fun x => k (ref_bits_L1_fin x).1 (ref_bits_L1_fin x).2 := by
  obtain ⟨s3_n, s4, m0_0, m0_1, m1⟩ := d
  exact (show _ = ref_bits_L1_t s3_n s4 m0_0 m0_1 m1 next (fun x => k (ref_bits_L1_fin x).1 (ref_bits_L1_fin x).2) from by kernel_rfl).trans (ref_bits_L1_t_eq s3_n s4 m0_0 m0_1 m1 _ _)
noncomputable def ref_bits_L1 (d : ref_bits_L1_D) : Option ref_bits_L1_R := runs ref_bits_L1_pass d
noncomputable def ref_bits_L1_sp : CSpec := fun _ st k => reNorm 0 ref_bits_L1_N ref_bits_L1_A ref_bits_L1_H st fun a m => outOf (ref_bits_L1 (ref_bits_L1_to a m)) fun v => k (.exit 0) ⟨[.any, .ptr 0 0 0, .any, .msl 1 0 v.1, .any, .any, .any, .any, .any, .any, .any, .any, .any, .any, .any, .any, .any, .any, .any, .any, .any, .any, .any, .any, .any, .any, .any, .any, .any], [.box [.lit (.int .i64 v.2.1), .lit (.int .i64 v.2.2.1)], .row (.int .i64) v.2.2.2]⟩
theorem ref_bits_L1_ok : SumOK Tryd.prog 0 (.loop ((codeAt (bodyOf Tryd.f116) [0, 0, 1, 0, 1, 1]).getD .skip)) ref_bits_L1_sp := (SumOK.loop NrGE1_ok mixed ref_bits_h0_ok (show codeAt (bodyOf Tryd.f116) [0, 1, 0, 1, 1] = some (.loop ((codeAt (bodyOf Tryd.f116) [0, 0, 1, 0, 1, 1]).getD .skip)) from by kernel_rfl) (N := ref_bits_L1_N) (Nx := ref_bits_L1_X) (A := ref_bits_L1_A) (Hs := ref_bits_L1_H) (toD := ref_bits_L1_to) (ofA := ref_bits_L1_ofA) (ofH := ref_bits_L1_ofH) (fun _ _ => rfl) (fun _ _ => rfl) (pass := ref_bits_L1_pass) (fin := ref_bits_L1_fin) 60 ref_bits_L1_ev (steps ref_bits_L1_pass)).mono fun α st k r h => by
  refine Eq.trans (congrArg (reNorm 0 ref_bits_L1_N ref_bits_L1_A ref_bits_L1_H st) ?_) h
  funext a m
  exact outOf_congr fun x => rfl
noncomputable def ref_bits_L1_h : Hints := ref_bits_h0.add [0, 1, 0, 1, 1] ref_bits_L1_sp
theorem ref_bits_L1_h_ok : ref_bits_L1_h.OK Tryd.prog (bodyOf Tryd.f116) := ref_bits_h0_ok.add (show codeAt (bodyOf Tryd.f116) [0, 1, 0, 1, 1] = some (.loop ((codeAt (bodyOf Tryd.f116) [0, 0, 1, 0, 1, 1]).getD .skip)) from by kernel_rfl) ref_bits_L1_ok
def ref_bits_L2_A : List SD := [.any, .loc 0 0 0, .any, .rowz 1, .any, .val (.int .i64), .any, .any, .any, .any, .any, .any, .any, .any, .any, .any, .any, .any, .any, .any, .any, .any, .any, .any, .any, .any, .any, .any, .any]
def ref_bits_L2_H : List HD := [.box [.val (.int .i64), .val (.int .i64)], .row (.int .i64)]
abbrev ref_bits_L2_D : Type := Nat × Int × Int × Int × (List Int)
def ref_bits_L2_to (a : DenS ref_bits_L2_A) (m : DenH ref_bits_L2_H) : ref_bits_L2_D := (a.2.2.2.1, a.2.2.2.2.2.1, m.1.1, m.1.2.1, m.2.1)
def ref_bits_L2_ofA (d : ref_bits_L2_D) : DenS ref_bits_L2_A := match d with | (s3_n, s5, m0_0, m0_1, m1) => ((), (), (), s3_n, (), s5, (), (), (), (), (), (), (), (), (), (), (), (), (), (), (), (), (), (), (), (), (), (), (), ())
def ref_bits_L2_ofH (d : ref_bits_L2_D) : DenH ref_bits_L2_H := match d with | (s3_n, s5, m0_0, m0_1, m1) => ((m0_0, m0_1, ()), m1, ())
def ref_bits_L2_N : Norm := (⟨[1, 3, 5], [], []⟩ : Go.TX.Norm)
def ref_bits_L2_X : Exit → Norm := fun e => match e with | .exit 2 => ⟨[3], [], []⟩ | _ => ⟨[], [], []⟩
abbrev ref_bits_L2_R : Type := (Nat × (List Int))
def ref_bits_L2_fin (v : ref_bits_L2_R) : Exit × St := ((.exit 2), ⟨[.any, .any, .any, .msl 0 0 v.1, .any, .any, .any, .any, .any, .any, .any, .any, .any, .any, .any, .any, .any, .any, .any, .any, .any, .any, .any, .any, .any, .any, .any, .any, .any], [.row (.int .i64) v.2]⟩)
noncomputable def ref_bits_L2_t {γ : Type} (s3_n : Nat) (s5 : Int) (m0_0 : Int) (m0_1 : Int) (m1 : (List Int)) (next : ref_bits_L2_D → Option γ) (out : ref_bits_L2_R → Option γ) : Option γ := cond (decide (s5 < (64 : Int))) (outOf (ref_Bit m0_1 s5) fun (x4 : Int) => cond (decide (s3_n + List.length [x4] ≤ (2147483648 : Nat))) (next (s3_n + List.length [x4], IntKind.wrap IntKind.i64 (s5 + (1 : Int)), m0_0, m0_1, List.take s3_n (List.drop (0 : Nat) m1) ++ [x4])) (none)) (out (s3_n, m1))
noncomputable def ref_bits_L2_pass (d : ref_bits_L2_D) : Option (ref_bits_L2_D ⊕ ref_bits_L2_R) := ref_bits_L2_t d.1 d.2.1 d.2.2.1 d.2.2.2.1 d.2.2.2.2 (fun d => some (.inl d)) (fun x => some (.inr x))
theorem ref_bits_L2_t_eq {γ : Type} (s3_n : Nat) (s5 : Int) (m0_0 : Int) (m0_1 : Int) (m1 : (List Int)) (next : ref_bits_L2_D → Option γ) (out : ref_bits_L2_R → Option γ) : ref_bits_L2_t s3_n s5 m0_0 m0_1 m1 next out = PassOf (ref_bits_L2_t s3_n s5 m0_0 m0_1 m1 (fun d => some (.inl d)) (fun x => some (.inr x))) next out := by
  delta ref_bits_L2_t; exact (Ps.nd (Ps.bd fun x4 => (Ps.nd Ps.nx Ps.no)) Ps.ou)
theorem ref_bits_L2_ev (α : Type) (d : ref_bits_L2_D) (next : ref_bits_L2_D → Option α) (k : Exit → St → Option α) : ev Tryd.prog NrGE1 ref_bits_L1_h 60 [0, 0, 1, 0, 1, 1, 1] ((codeAt (bodyOf Tryd.f116) [0, 0, 1, 0, 1, 1, 1]).getD .skip) ⟨mkS ref_bits_L2_A (ref_bits_L2_ofA d), mkH ref_bits_L2_H (ref_bits_L2_ofH d)⟩ (passK 0 ref_bits_L2_N ref_bits_L2_A ref_bits_L2_H ref_bits_L2_X (fun a m => next (ref_bits_L2_to a m)) k) = PassOf (ref_bits_L2_pass d) next fun x => k (ref_bits_L2_fin x).1 (ref_bits_L2_fin x).2 := by
  obtain ⟨s3_n, s5, m0_0, m0_1, m1⟩ := d
  exact (show _ = ref_bits_L2_t s3_n s5 m0_0 m0_1 m1 next (fun x => k (ref_bits_L2_fin x).1 (ref_bits_L2_fin x).2) from by kernel_rfl).trans (ref_bits_L2_t_eq s3_n s5 m0_0 m0_1 m1 _ _)
noncomputable def ref_bits_L2 (d : ref_bits_L2_D) : Option ref_bits_L2_R := runs ref_bits_L2_pass d
noncomputable def ref_bits_L2_sp : CSpec := fun _ st k => reNorm 0 ref_bits_L2_N ref_bits_L2_A ref_bits_L2_H st fun a m => outOf (ref_bits_L2 (ref_bits_L2_to a m)) fun v => k (.exit 2) ⟨[.any, .any, .any, .msl 0 0 v.1, .any, .any, .any, .any, .any, .any, .any, .any, .any, .any, .any, .any, .any, .any, .any, .any, .any, .any, .any, .any, .any, .any, .any, .any, .any], [.row (.int .i64) v.2]⟩
theorem ref_bits_L2_ok : SumOK Tryd.prog 0 (.loop ((codeAt (bodyOf Tryd.f116) [0, 0, 1, 0, 1, 1, 1]).getD .skip)) ref_bits_L2_sp := (SumOK.loop NrGE1_ok mixed ref_bits_L1_h_ok (show codeAt (bodyOf Tryd.f116) [0, 1, 0, 1, 1, 1] = some (.loop ((codeAt (bodyOf Tryd.f116) [0, 0, 1, 0, 1, 1, 1]).getD .skip)) from by kernel_rfl) (N := ref_bits_L2_N) (Nx := ref_bits_L2_X) (A := ref_bits_L2_A) (Hs := ref_bits_L2_H) (toD := ref_bits_L2_to) (ofA := ref_bits_L2_ofA) (ofH := ref_bits_L2_ofH) (fun _ _ => rfl) (fun _ _ => rfl) (pass := ref_bits_L2_pass) (fin := ref_bits_L2_fin) 60 ref_bits_L2_ev (steps ref_bits_L2_pass)).mono fun α st k r h => by
  refine Eq.trans (congrArg (reNorm 0 ref_bits_L2_N ref_bits_L2_A ref_bits_L2_H st) ?_) h
  funext a m
  exact outOf_congr fun x => rfl
noncomputable def ref_bits_L2_h : Hints := ref_bits_L1_h.add [0, 1, 0, 1, 1, 1] ref_bits_L2_sp
theorem ref_bits_L2_h_ok : ref_bits_L2_h.OK Tryd.prog (bodyOf Tryd.f116) := ref_bits_L1_h_ok.add (show codeAt (bodyOf Tryd.f116) [0, 1, 0, 1, 1, 1] = some (.loop ((codeAt (bodyOf Tryd.f116) [0, 0, 1, 0, 1, 1, 1]).getD .skip)) from by kernel_rfl) ref_bits_L2_ok
abbrev ref_bits_R : Type := ((List Int))
noncomputable def ref_bits_t {γ : Type} (a0_0 : Int) (a0_1 : Int) (k : ref_bits_R → Option γ) : Option γ := outOf (ref_bits_L1 ((0 : Nat), (0 : Int), a0_0, a0_1, [])) fun (x5 : (Nat × (Int × (Int × (List Int))))) => outOf (ref_bits_L2 (Prod.fst x5, (0 : Int), Prod.fst (Prod.snd x5), Prod.fst (Prod.snd (Prod.snd x5)), Prod.snd (Prod.snd (Prod.snd x5)))) fun (x6 : (Nat × (List Int))) => k (List.take (Prod.fst x6) (List.drop (0 : Nat) (Prod.snd x6)))
noncomputable def ref_bits (a0_0 : Int) (a0_1 : Int) : Option ref_bits_R := ref_bits_t a0_0 a0_1 some
theorem ref_bits_t_eq {γ : Type} (a0_0 : Int) (a0_1 : Int) (k : ref_bits_R → Option γ) : ref_bits_t a0_0 a0_1 k = outOf (ref_bits a0_0 a0_1) k := by
  delta ref_bits ref_bits_t; exact (Tr.bd fun x5 => (Tr.bd fun x6 => Tr.lf))
noncomputable def ref_bits_sp : TX.Spec := specD [.agg (.pair (.int .i64) (.int .i64))] [] fun _ a m k => match a, m with | ⟨⟨a0_0, a0_1⟩, _⟩, _ => outOf (ref_bits a0_0 a0_1) fun v => k (.sl (.int .i64) v false) []
theorem ref_bits_ev {α : Type} (a0_0 : Int) (a0_1 : Int) (k : Kont α) : evFun Tryd.prog NrGE1 (ref_bits_L2_h) false Tryd.f116 (bodyOf Tryd.f116) 60 (mkS [.agg (.pair (.int .i64) (.int .i64))] ((a0_0, a0_1), ())) (mkH [] ()) k = outOf (ref_bits a0_0 a0_1) fun v => k (.sl (.int .i64) v false) [] :=
  (show _ = ref_bits_t a0_0 a0_1 (fun v => k (.sl (.int .i64) v false) []) from by kernel_rfl).trans (ref_bits_t_eq a0_0 a0_1 _)
theorem ref_bits_good : TX.Good Tryd.prog 116 ref_bits_sp := good_form NrGE1_ok mixed Tryd.func116 (body_of rfl) (by kernel_rfl) false fun α a m k r h => by
  obtain ⟨⟨a0_0, a0_1⟩, _⟩ := a; obtain _ := m
  exact ⟨ref_bits_L2_h, 60, ref_bits_L2_h_ok, rfl, (ref_bits_ev a0_0 a0_1 k).trans h⟩
def ref_make2_h0 : Hints := Hints.nil 0
theorem ref_make2_h0_ok : ref_make2_h0.OK Tryd.prog (bodyOf Tryd.f117) := Hints.nil_ok
abbrev ref_make2_R : Type := (Int × Int)
noncomputable def ref_make2_t {γ : Type} (a0 : (List Int)) (k : ref_make2_R → Option γ) : Option γ := cond (decide ((0 : Int) ≤ (0 : Int) ∧ (0 : Int) ≤ (64 : Int) ∧ (64 : Int) ≤ (↑(List.length a0) : Int))) (outOf (ref_Make (List.take (64 : Nat) (List.drop (0 : Nat) a0))) fun (x1 : Int) => cond (decide ((0 : Int) ≤ (64 : Int) ∧ (64 : Int) ≤ (128 : Int) ∧ (128 : Int) ≤ (↑(List.length a0) : Int))) (outOf (ref_Make (List.take (64 : Nat) (List.drop (64 : Nat) a0))) fun (x2 : Int) => k (x1, x2)) (none)) (none)
noncomputable def ref_make2 (a0 : (List Int)) : Option ref_make2_R := ref_make2_t a0 some
theorem ref_make2_t_eq {γ : Type} (a0 : (List Int)) (k : ref_make2_R → Option γ) : ref_make2_t a0 k = outOf (ref_make2 a0) k := by
  delta ref_make2 ref_make2_t; exact (Tr.nd (Tr.bd fun x1 => (Tr.nd (Tr.bd fun x2 => Tr.lf) Tr.no)) Tr.no)
noncomputable def ref_make2_sp : TX.Spec := specD [.val (.sl (.int .i64))] [] fun _ a m k => match a, m with | ⟨a0, _⟩, _ => outOf (ref_make2 a0) fun v => k (.agg [.lit (.int .i64 v.1), .lit (.int .i64 v.2)]) []
theorem ref_make2_ev {α : Type} (a0 : (List Int)) (k : Kont α) : evFun Tryd.prog NrGE1 (ref_make2_h0) false Tryd.f117 (bodyOf Tryd.f117) 60 (mkS [.val (.sl (.int .i64))] (a0, ())) (mkH [] ()) k = outOf (ref_make2 a0) fun v => k (.agg [.lit (.int .i64 v.1), .lit (.int .i64 v.2)]) [] :=
  (show _ = ref_make2_t a0 (fun v => k (.agg [.lit (.int .i64 v.1), .lit (.int .i64 v.2)]) []) from by kernel_rfl).trans (ref_make2_t_eq a0 _)
theorem ref_make2_good : TX.Good Tryd.prog 117 ref_make2_sp := good_form NrGE1_ok mixed Tryd.func117 (body_of rfl) (by kernel_rfl) false fun α a m k r h => by
  obtain ⟨a0, _⟩ := a; obtain _ := m
  exact ⟨ref_make2_h0, 60, ref_make2_h0_ok, rfl, (ref_make2_ev a0 k).trans h⟩
def ref_Ult_h0 : Hints := Hints.nil 0
theorem ref_Ult_h0_ok : ref_Ult_h0.OK Tryd.prog (bodyOf Tryd.f145) := Hints.nil_ok
def ref_Ult_L1_A : List SD := [.val (.int .i64), .val (.int .i64), .any, .any, .any, .val (.int .i64), .any, .any, .any, .any, .any, .any, .any, .any, .any, .any, .any, .any, .any, .any, .any]
def ref_Ult_L1_H : List HD := []
abbrev ref_Ult_L1_D : Type := Int × Int × Int
def ref_Ult_L1_to (a : DenS ref_Ult_L1_A) (m : DenH ref_Ult_L1_H) : ref_Ult_L1_D := (a.1, a.2.1, a.2.2.2.2.2.1)
def ref_Ult_L1_ofA (d : ref_Ult_L1_D) : DenS ref_Ult_L1_A := match d with | (s0, s1, s5) => (s0, s1, (), (), (), s5, (), (), (), (), (), (), (), (), (), (), (), (), (), (), (), ())
def ref_Ult_L1_ofH (d : ref_Ult_L1_D) : DenH ref_Ult_L1_H := match d with | (s0, s1, s5) => ()
def ref_Ult_L1_N : Norm := (⟨[0, 1, 5], [], []⟩ : Go.TX.Norm)
def ref_Ult_L1_X : Exit → Norm := fun e => match e with | .exit 0 => ⟨[], [], []⟩ | .ret => ⟨[4], [], []⟩ | _ => ⟨[], [], []⟩
abbrev ref_Ult_L1_R : Type := ((Bool) ⊕ (Unit))
def ref_Ult_L1_fin (v : ref_Ult_L1_R) : Exit × St := sumOf v (fun v => (.ret, ⟨[.any, .any, .any, .any, .lit (.bool v), .any, .any, .any, .any, .any, .any, .any, .any, .any, .any, .any, .any, .any, .any, .any, .any], []⟩)) (fun v => ((.exit 0), ⟨[.any, .any, .any, .any, .any, .any, .any, .any, .any, .any, .any, .any, .any, .any, .any, .any, .any, .any, .any, .any, .any], []⟩))
noncomputable def ref_Ult_L1_t {γ : Type} (s0 : Int) (s1 : Int) (s5 : Int) (next : ref_Ult_L1_D → Option γ) (out : ref_Ult_L1_R → Option γ) : Option γ := cond (decide (s5 ≥ (0 : Int))) (outOf (ref_Bit s0 s5) fun (x1 : Int) => outOf (ref_Bit s1 s5) fun (x2 : Int) => cond (x1 != x2) (outOf (ref_Bit s1 s5) fun (x3 : Int) => out (.inl (x3 == (1 : Int)))) (next (s0, s1, IntKind.wrap IntKind.i64 (s5 - (1 : Int))))) (out (.inr ()))
noncomputable def ref_Ult_L1_pass (d : ref_Ult_L1_D) : Option (ref_Ult_L1_D ⊕ ref_Ult_L1_R) := ref_Ult_L1_t d.1 d.2.1 d.2.2 (fun d => some (.inl d)) (fun x => some (.inr x))
theorem ref_Ult_L1_t_eq {γ : Type} (s0 : Int) (s1 : Int) (s5 : Int) (next : ref_Ult_L1_D → Option γ) (out : ref_Ult_L1_R → Option γ) : ref_Ult_L1_t s0 s1 s5 next out = PassOf (ref_Ult_L1_t s0 s1 s5 (fun d => some (.inl d)) (fun x => some (.inr x))) next out := by
  delta ref_Ult_L1_t; exact (Ps.nd (Ps.bd fun x1 => (Ps.bd fun x2 => (Ps.nd (Ps.bd fun x3 => Ps.ou) Ps.nx))) Ps.ou)
theorem ref_Ult_L1_ev (α : Type) (d : ref_Ult_L1_D) (next : ref_Ult_L1_D → Option α) (k : Exit → St → Option α) : ev Tryd.prog NrGE1 ref_Ult_h0 60 [0, 0, 1, 0, 1] ((codeAt (bodyOf Tryd.f145) [0, 0, 1, 0, 1]).getD .skip) ⟨mkS ref_Ult_L1_A (ref_Ult_L1_ofA d), mkH ref_Ult_L1_H (ref_Ult_L1_ofH d)⟩ (passK 0 ref_Ult_L1_N ref_Ult_L1_A ref_Ult_L1_H ref_Ult_L1_X (fun a m => next (ref_Ult_L1_to a m)) k) = PassOf (ref_Ult_L1_pass d) next fun x => k (ref_Ult_L1_fin x).1 (ref_Ult_L1_fin x).2 := by
  obtain ⟨s0, s1, s5⟩ := d
  exact (show _ = ref_Ult_L1_t s0 s1 s5 next (fun x => k (ref_Ult_L1_fin x).1 (ref_Ult_L1_fin x).2) from by kernel_rfl).trans (ref_Ult_L1_t_eq s0 s1 s5 _ _)
noncomputable def ref_Ult_L1 (d : ref_Ult_L1_D) : Option ref_Ult_L1_R := runs ref_Ult_L1_pass d
noncomputable def ref_Ult_L1_sp : CSpec := fun _ st k => reNorm 0 ref_Ult_L1_N ref_Ult_L1_A ref_Ult_L1_H st fun a m => outOf (ref_Ult_L1 (ref_Ult_L1_to a m)) fun v => sumOf v (fun v => k .ret ⟨[.any, .any, .any, .any, .lit (.bool v), .any, .any, .any, .any, .any, .any, .any, .any, .any, .any, .any, .any, .any, .any, .any, .any], []⟩) (fun v => k (.exit 0) ⟨[.any, .any, .any, .any, .any, .any, .any, .any, .any, .any, .any, .any, .any, .any, .any, .any, .any, .any, .any, .any, .any], []⟩)
theorem ref_Ult_L1_ok : SumOK Tryd.prog 0 (.loop ((codeAt (bodyOf Tryd.f145) [0, 0, 1, 0, 1]).getD .skip)) ref_Ult_L1_sp := (SumOK.loop NrGE1_ok mixed ref_Ult_h0_ok (show codeAt (bodyOf Tryd.f145) [0, 1, 0, 1] = some (.loop ((codeAt (bodyOf Tryd.f145) [0, 0, 1, 0, 1]).getD .skip)) from by kernel_rfl) (N := ref_Ult_L1_N) (Nx := ref_Ult_L1_X) (A := ref_Ult_L1_A) (Hs := ref_Ult_L1_H) (toD := ref_Ult_L1_to) (ofA := ref_Ult_L1_ofA) (ofH := ref_Ult_L1_ofH) (fun _ _ => rfl) (fun _ _ => rfl) (pass := ref_Ult_L1_pass) (fin := ref_Ult_L1_fin) 60 ref_Ult_L1_ev (steps ref_Ult_L1_pass)).mono fun α st k r h => by
  refine Eq.trans (congrArg (reNorm 0 ref_Ult_L1_N ref_Ult_L1_A ref_Ult_L1_H st) ?_) h
  funext a m
  exact outOf_congr fun x => by rcases x with x | x <;> rfl
noncomputable def ref_Ult_L1_h : Hints := ref_Ult_h0.add [0, 1, 0, 1] ref_Ult_L1_sp
theorem ref_Ult_L1_h_ok : ref_Ult_L1_h.OK Tryd.prog (bodyOf Tryd.f145) := ref_Ult_h0_ok.add (show codeAt (bodyOf Tryd.f145) [0, 1, 0, 1] = some (.loop ((codeAt (bodyOf Tryd.f145) [0, 0, 1, 0, 1]).getD .skip)) from by kernel_rfl) ref_Ult_L1_ok
abbrev ref_Ult_R : Type := (Bool)
noncomputable def ref_Ult_t {γ : Type} (a0 : Int) (a1 : Int) (k : ref_Ult_R → Option γ) : Option γ := outOf (ref_Ult_L1 (a0, a1, (63 : Int))) fun (x4 : Bool ⊕ Unit) => sumOf x4 (fun x5 => k (x5)) (fun x6 => k (false))
noncomputable def ref_Ult (a0 : Int) (a1 : Int) : Option ref_Ult_R := ref_Ult_t a0 a1 some
theorem ref_Ult_t_eq {γ : Type} (a0 : Int) (a1 : Int) (k : ref_Ult_R → Option γ) : ref_Ult_t a0 a1 k = outOf (ref_Ult a0 a1) k := by
  delta ref_Ult ref_Ult_t; exact (Tr.bd fun x4 => (Tr.cs (fun x5 => Tr.lf) (fun x6 => Tr.lf)))
noncomputable def ref_Ult_sp : TX.Spec := specD [.val (.int .i64), .val (.int .i64)] [] fun _ a m k => match a, m with | ⟨a0, a1, _⟩, _ => outOf (ref_Ult a0 a1) fun v => k (.lit (.bool v)) []
theorem ref_Ult_ev {α : Type} (a0 : Int) (a1 : Int) (k : Kont α) : evFun Tryd.prog NrGE1 (ref_Ult_L1_h) false Tryd.f145 (bodyOf Tryd.f145) 60 (mkS [.val (.int .i64), .val (.int .i64)] (a0, a1, ())) (mkH [] ()) k = outOf (ref_Ult a0 a1) fun v => k (.lit (.bool v)) [] :=
  (show _ = ref_Ult_t a0 a1 (fun v => k (.lit (.bool v)) []) from by kernel_rfl).trans (ref_Ult_t_eq a0 a1 _)
theorem ref_Ult_good : TX.Good Tryd.prog 145 ref_Ult_sp := good_form NrGE1_ok mixed Tryd.func145 (body_of rfl) (by kernel_rfl) false fun α a m k r h => by
  obtain ⟨a0, a1, _⟩ := a; obtain _ := m
  exact ⟨ref_Ult_L1_h, 60, ref_Ult_L1_h_ok, rfl, (ref_Ult_ev a0 a1 k).trans h⟩
noncomputable def NrGE2 : Env := NrGE1.add 116 true ref_bits_sp |>.add 117 true ref_make2_sp |>.add 145 true ref_Ult_sp
theorem NrGE2_ok : NrGE2.OK Tryd.prog := (((NrGE1_ok).add_ok ref_bits_good).add_ok ref_make2_good).add_ok ref_Ult_good
def ref_Add_h0 : Hints := Hints.nil 0
theorem ref_Add_h0_ok : ref_Add_h0.OK Tryd.prog (bodyOf Tryd.f91) := Hints.nil_ok
def ref_Add_L1_A : List SD := [.any, .any, .any, .any, .loc 0 0 0, .val (.sl (.int .i64)), .val (.sl (.int .i64)), .rowz 1, .val (.int .i64), .val (.int .i64), .any, .any, .any, .any, .any, .any, .any, .any, .any, .any, .any, .any, .any, .any, .any, .any, .any, .any, .any, .any, .any, .any, .any, .any, .any, .any, .any, .any, .any, .any]
def ref_Add_L1_H : List HD := [.box [.val (.int .i64), .val (.int .i64)], .row (.int .i64)]
abbrev ref_Add_L1_D : Type := (List Int) × (List Int) × Nat × Int × Int × Int × Int × (List Int)
def ref_Add_L1_to (a : DenS ref_Add_L1_A) (m : DenH ref_Add_L1_H) : ref_Add_L1_D := (a.2.2.2.2.2.1, a.2.2.2.2.2.2.1, a.2.2.2.2.2.2.2.1, a.2.2.2.2.2.2.2.2.1, a.2.2.2.2.2.2.2.2.2.1, m.1.1, m.1.2.1, m.2.1)
def ref_Add_L1_ofA (d : ref_Add_L1_D) : DenS ref_Add_L1_A := match d with | (s5, s6, s7_n, s8, s9, m0_0, m0_1, m1) => ((), (), (), (), (), s5, s6, s7_n, s8, s9, (), (), (), (), (), (), (), (), (), (), (), (), (), (), (), (), (), (), (), (), (), (), (), (), (), (), (), (), (), (), ())
def ref_Add_L1_ofH (d : ref_Add_L1_D) : DenH ref_Add_L1_H := match d with | (s5, s6, s7_n, s8, s9, m0_0, m0_1, m1) => ((m0_0, m0_1, ()), m1, ())
def ref_Add_L1_N : Norm := (⟨[4, 5, 6, 7, 8, 9], [], []⟩ : Go.TX.Norm)
def ref_Add_L1_X : Exit → Norm := fun e => match e with | .exit 0 => ⟨[4, 7], [], []⟩ | _ => ⟨[], [], []⟩
abbrev ref_Add_L1_R : Type := (Nat × Int × Int × (List Int))
def ref_Add_L1_fin (v : ref_Add_L1_R) : Exit × St := ((.exit 0), ⟨[.any, .any, .any, .any, .ptr 0 0 0, .any, .any, .msl 1 0 v.1, .any, .any, .any, .any, .any, .any, .any, .any, .any, .any, .any, .any, .any, .any, .any, .any, .any, .any, .any, .any, .any, .any, .any, .any, .any, .any, .any, .any, .any, .any, .any, .any], [.box [.lit (.int .i64 v.2.1), .lit (.int .i64 v.2.2.1)], .row (.int .i64) v.2.2.2]⟩)
noncomputable def ref_Add_L1_t {γ : Type} (s5 : (List Int)) (s6 : (List Int)) (s7_n : Nat) (s8 : Int) (s9 : Int) (m0_0 : Int) (m0_1 : Int) (m1 : (List Int)) (next : ref_Add_L1_D → Option γ) (out : ref_Add_L1_R → Option γ) : Option γ := cond (decide (s9 < (128 : Int))) (cond (decide ((0 : Int) ≤ s9 ∧ s9 < (↑(List.length s5) : Int))) (cond (decide ((0 : Int) ≤ s9 ∧ s9 < (↑(List.length s6) : Int))) (cond (decide ((0 : Int) ≤ s9 ∧ s9 < (↑s7_n : Int))) (next (s5, s6, s7_n, IntKind.wrap IntKind.i64 (Int.tdiv (IntKind.wrap IntKind.i64 (IntKind.wrap IntKind.i64 (List.getD s5 (Int.toNat s9) (0 : Int) + List.getD s6 (Int.toNat s9) (0 : Int)) + s8)) (2 : Int)), IntKind.wrap IntKind.i64 (s9 + (1 : Int)), m0_0, m0_1, List.set m1 ((0 : Nat) + Int.toNat s9) (Int.tmod (IntKind.wrap IntKind.i64 (IntKind.wrap IntKind.i64 (List.getD s5 (Int.toNat s9) (0 : Int) + List.getD s6 (Int.toNat s9) (0 : Int)) + s8)) (2 : Int)))) (none)) (none)) (none)) (out (s7_n, m0_0, m0_1, m1))
noncomputable def ref_Add_L1_pass (d : ref_Add_L1_D) : Option (ref_Add_L1_D ⊕ ref_Add_L1_R) := ref_Add_L1_t d.1 d.2.1 d.2.2.1 d.2.2.2.1 d.2.2.2.2.1 d.2.2.2.2.2.1 d.2.2.2.2.2.2.1 d.2.2.2.2.2.2.2 (fun d => some (.inl d)) (fun x => some (.inr x))
theorem ref_Add_L1_t_eq {γ : Type} (s5 : (List Int)) (s6 : (List Int)) (s7_n : Nat) (s8 : Int) (s9 : Int) (m0_0 : Int) (m0_1 : Int) (m1 : (List Int)) (next : ref_Add_L1_D → Option γ) (out : ref_Add_L1_R → Option γ) : ref_Add_L1_t s5 s6 s7_n s8 s9 m0_0 m0_1 m1 next out = PassOf (ref_Add_L1_t s5 s6 s7_n s8 s9 m0_0 m0_1 m1 (fun d => some (.inl d)) (fun x => some (.inr x))) next out := by
  delta ref_Add_L1_t; exact (Ps.nd (Ps.nd (Ps.nd (Ps.nd Ps.nx Ps.no) Ps.no) Ps.no) Ps.ou)
theorem ref_Add_L1_ev (α : Type) (d : ref_Add_L1_D) (next : ref_Add_L1_D → Option α) (k : Exit → St → Option α) : ev Tryd.prog NrGE2 ref_Add_h0 60 [0, 0, 1, 0, 1, 1, 1, 1, 1] ((codeAt (bodyOf Tryd.f91) [0, 0, 1, 0, 1, 1, 1, 1, 1]).getD .skip) ⟨mkS ref_Add_L1_A (ref_Add_L1_ofA d), mkH ref_Add_L1_H (ref_Add_L1_ofH d)⟩ (passK 0 ref_Add_L1_N ref_Add_L1_A ref_Add_L1_H ref_Add_L1_X (fun a m => next (ref_Add_L1_to a m)) k) = PassOf (ref_Add_L1_pass d) next fun x => k (ref_Add_L1_fin x).1 (ref_Add_L1_fin x).2 := by
  obtain ⟨s5, s6, s7_n, s8, s9, m0_0, m0_1, m1⟩ := d
  exact (show _ = ref_Add_L1_t s5 s6 s7_n s8 s9 m0_0 m0_1 m1 next (fun x => k (ref_Add_L1_fin x).1 (ref_Add_L1_fin x).2) from by kernel_rfl).trans (ref_Add_L1_t_eq s5 s6 s7_n s8 s9 m0_0 m0_1 m1 _ _)
noncomputable def ref_Add_L1 (d : ref_Add_L1_D) : Option ref_Add_L1_R := runs ref_Add_L1_pass d
noncomputable def ref_Add_L1_sp : CSpec := fun _ st k => reNorm 0 ref_Add_L1_N ref_Add_L1_A ref_Add_L1_H st fun a m => outOf (ref_Add_L1 (ref_Add_L1_to a m)) fun v => k (.exit 0) ⟨[.any, .any, .any, .any, .ptr 0 0 0, .any, .any, .msl 1 0 v.1, .any, .any, .any, .any, .any, .any, .any, .any, .any, .any, .any, .any, .any, .any, .any, .any, .any, .any, .any, .any, .any, .any, .any, .any, .any, .any, .any, .any, .any, .any, .any, .any], [.box [.lit (.int .i64 v.2.1), .lit (.int .i64 v.2.2.1)], .row (.int .i64) v.2.2.2]⟩
theorem ref_Add_L1_ok : SumOK Tryd.prog 0 (.loop ((codeAt (bodyOf Tryd.f91) [0, 0, 1, 0, 1, 1, 1, 1, 1]).getD .skip)) ref_Add_L1_sp := (SumOK.loop NrGE2_ok mixed ref_Add_h0_ok (show codeAt (bodyOf Tryd.f91) [0, 1, 0, 1, 1, 1, 1, 1] = some (.loop ((codeAt (bodyOf Tryd.f91) [0, 0, 1, 0, 1, 1, 1, 1, 1]).getD .skip)) from by kernel_rfl) (N := ref_Add_L1_N) (Nx := ref_Add_L1_X) (A := ref_Add_L1_A) (Hs := ref_Add_L1_H) (toD := ref_Add_L1_to) (ofA := ref_Add_L1_ofA) (ofH := ref_Add_L1_ofH) (fun _ _ => rfl) (fun _ _ => rfl) (pass := ref_Add_L1_pass) (fin := ref_Add_L1_fin) 60 ref_Add_L1_ev (steps ref_Add_L1_pass)).mono fun α st k r h => by
  refine Eq.trans (congrArg (reNorm 0 ref_Add_L1_N ref_Add_L1_A ref_Add_L1_H st) ?_) h
  funext a m
  exact outOf_congr fun x => rfl
noncomputable def ref_Add_L1_h : Hints := ref_Add_h0.add [0, 1, 0, 1, 1, 1, 1, 1] ref_Add_L1_sp
theorem ref_Add_L1_h_ok : ref_Add_L1_h.OK Tryd.prog (bodyOf Tryd.f91) := ref_Add_h0_ok.add (show codeAt (bodyOf Tryd.f91) [0, 1, 0, 1, 1, 1, 1, 1] = some (.loop ((codeAt (bodyOf Tryd.f91) [0, 0, 1, 0, 1, 1, 1, 1, 1]).getD .skip)) from by kernel_rfl) ref_Add_L1_ok
abbrev ref_Add_R : Type := (Int × Int)
noncomputable def ref_Add_t {γ : Type} (a0_0 : Int) (a0_1 : Int) (a1_0 : Int) (a1_1 : Int) (k : ref_Add_R → Option γ) : Option γ := outOf (ref_bits a0_0 a0_1) fun (x5 : (List Int)) => outOf (ref_bits a1_0 a1_1) fun (x6 : (List Int)) => outOf (ref_Add_L1 (x5, x6, (128 : Nat), (0 : Int), (0 : Int), (0 : Int), (0 : Int), List.replicate (128 : Nat) (0 : Int))) fun (x7 : (Nat × (Int × (Int × (List Int))))) => outOf (ref_make2 (List.take (Prod.fst x7) (List.drop (0 : Nat) (Prod.snd (Prod.snd (Prod.snd x7)))))) fun (x8 : (Int × Int)) => k (Prod.fst x8, Prod.snd x8)
noncomputable def ref_Add (a0_0 : Int) (a0_1 : Int) (a1_0 : Int) (a1_1 : Int) : Option ref_Add_R := ref_Add_t a0_0 a0_1 a1_0 a1_1 some
theorem ref_Add_t_eq {γ : Type} (a0_0 : Int) (a0_1 : Int) (a1_0 : Int) (a1_1 : Int) (k : ref_Add_R → Option γ) : ref_Add_t a0_0 a0_1 a1_0 a1_1 k = outOf (ref_Add a0_0 a0_1 a1_0 a1_1) k := by
  delta ref_Add ref_Add_t; exact (Tr.bd fun x5 => (Tr.bd fun x6 => (Tr.bd fun x7 => (Tr.bd fun x8 => Tr.lf))))
noncomputable def ref_Add_sp : TX.Spec := specD [.agg (.pair (.int .i64) (.int .i64)), .agg (.pair (.int .i64) (.int .i64))] [] fun _ a m k => match a, m with | ⟨⟨a0_0, a0_1⟩, ⟨a1_0, a1_1⟩, _⟩, _ => outOf (ref_Add a0_0 a0_1 a1_0 a1_1) fun v => k (.agg [.lit (.int .i64 v.1), .lit (.int .i64 v.2)]) []
theorem ref_Add_ev {α : Type} (a0_0 : Int) (a0_1 : Int) (a1_0 : Int) (a1_1 : Int) (k : Kont α) : evFun Tryd.prog NrGE2 (ref_Add_L1_h) false Tryd.f91 (bodyOf Tryd.f91) 60 (mkS [.agg (.pair (.int .i64) (.int .i64)), .agg (.pair (.int .i64) (.int .i64))] ((a0_0, a0_1), (a1_0, a1_1), ())) (mkH [] ()) k = outOf (ref_Add a0_0 a0_1 a1_0 a1_1) fun v => k (.agg [.lit (.int .i64 v.1), .lit (.int .i64 v.2)]) [] :=
  (show _ = ref_Add_t a0_0 a0_1 a1_0 a1_1 (fun v => k (.agg [.lit (.int .i64 v.1), .lit (.int .i64 v.2)]) []) from by kernel_rfl).trans (ref_Add_t_eq a0_0 a0_1 a1_0 a1_1 _)
theorem ref_Add_good : TX.Good Tryd.prog 91 ref_Add_sp := good_form NrGE2_ok mixed Tryd.func91 (body_of rfl) (by kernel_rfl) false fun α a m k r h => by
  obtain ⟨⟨a0_0, a0_1⟩, ⟨a1_0, a1_1⟩, _⟩ := a; obtain _ := m
  exact ⟨ref_Add_L1_h, 60, ref_Add_L1_h_ok, rfl, (ref_Add_ev a0_0 a0_1 a1_0 a1_1 k).trans h⟩
def ref_less_h0 : Hints := Hints.nil 0
theorem ref_less_h0_ok : ref_less_h0.OK Tryd.prog (bodyOf Tryd.f138) := Hints.nil_ok
abbrev ref_less_R : Type := (Bool)
noncomputable def ref_less_t {γ : Type} (a0_0 : Int) (a0_1 : Int) (a1_0 : Int) (a1_1 : Int) (k : ref_less_R → Option γ) : Option γ := outOf (ref_Ult a0_1 a1_1) fun (x1 : Bool) => cond x1 (k (true)) (cond (a0_1 == a1_1) (outOf (ref_Ult a0_0 a1_0) fun (x2 : Bool) => k (x2)) (k (false)))
noncomputable def ref_less (a0_0 : Int) (a0_1 : Int) (a1_0 : Int) (a1_1 : Int) : Option ref_less_R := ref_less_t a0_0 a0_1 a1_0 a1_1 some
theorem ref_less_t_eq {γ : Type} (a0_0 : Int) (a0_1 : Int) (a1_0 : Int) (a1_1 : Int) (k : ref_less_R → Option γ) : ref_less_t a0_0 a0_1 a1_0 a1_1 k = outOf (ref_less a0_0 a0_1 a1_0 a1_1) k := by
  delta ref_less ref_less_t; exact (Tr.bd fun x1 => (Tr.nd Tr.lf (Tr.nd (Tr.bd fun x2 => Tr.lf) Tr.lf)))
noncomputable def ref_less_sp : TX.Spec := specD [.agg (.pair (.int .i64) (.int .i64)), .agg (.pair (.int .i64) (.int .i64))] [] fun _ a m k => match a, m with | ⟨⟨a0_0, a0_1⟩, ⟨a1_0, a1_1⟩, _⟩, _ => outOf (ref_less a0_0 a0_1 a1_0 a1_1) fun v => k (.lit (.bool v)) []
theorem ref_less_ev {α : Type} (a0_0 : Int) (a0_1 : Int) (a1_0 : Int) (a1_1 : Int) (k : Kont α) : evFun Tryd.prog NrGE2 (ref_less_h0) false Tryd.f138 (bodyOf Tryd.f138) 60 (mkS [.agg (.pair (.int .i64) (.int .i64)), .agg (.pair (.int .i64) (.int .i64))] ((a0_0, a0_1), (a1_0, a1_1), ())) (mkH [] ()) k = outOf (ref_less a0_0 a0_1 a1_0 a1_1) fun v => k (.lit (.bool v)) [] :=
  (show _ = ref_less_t a0_0 a0_1 a1_0 a1_1 (fun v => k (.lit (.bool v)) []) from by kernel_rfl).trans (ref_less_t_eq a0_0 a0_1 a1_0 a1_1 _)
theorem ref_less_good : TX.Good Tryd.prog 138 ref_less_sp := good_form NrGE2_ok mixed Tryd.func138 (body_of rfl) (by kernel_rfl) false fun α a m k r h => by
  obtain ⟨⟨a0_0, a0_1⟩, ⟨a1_0, a1_1⟩, _⟩ := a; obtain _ := m
  exact ⟨ref_less_h0, 60, ref_less_h0_ok, rfl, (ref_less_ev a0_0 a0_1 a1_0 a1_1 k).trans h⟩
noncomputable def NrGE3 : Env := NrGE2.add 91 true ref_Add_sp |>.add 138 true ref_less_sp
theorem NrGE3_ok : NrGE3.OK Tryd.prog := ((NrGE2_ok).add_ok ref_Add_good).add_ok ref_less_good
def ref_Neg_h0 : Hints := Hints.nil 0
theorem ref_Neg_h0_ok : ref_Neg_h0.OK Tryd.prog (bodyOf Tryd.f58) := Hints.nil_ok
abbrev ref_Neg_R : Type := (Int × Int)
noncomputable def ref_Neg_t {γ : Type} (a0_0 : Int) (a0_1 : Int) (k : ref_Neg_R → Option γ) : Option γ := outOf (ref_Add (IntKind.wrap IntKind.i64 ((-1 : Int) - a0_0)) (IntKind.wrap IntKind.i64 ((-1 : Int) - a0_1)) (1 : Int) (0 : Int)) fun (x1 : (Int × Int)) => k (Prod.fst x1, Prod.snd x1)
noncomputable def ref_Neg (a0_0 : Int) (a0_1 : Int) : Option ref_Neg_R := ref_Neg_t a0_0 a0_1 some
theorem ref_Neg_t_eq {γ : Type} (a0_0 : Int) (a0_1 : Int) (k : ref_Neg_R → Option γ) : ref_Neg_t a0_0 a0_1 k = outOf (ref_Neg a0_0 a0_1) k := by
  delta ref_Neg ref_Neg_t; exact (Tr.bd fun x1 => Tr.lf)
noncomputable def ref_Neg_sp : TX.Spec := specD [.agg (.pair (.int .i64) (.int .i64))] [] fun _ a m k => match a, m with | ⟨⟨a0_0, a0_1⟩, _⟩, _ => outOf (ref_Neg a0_0 a0_1) fun v => k (.agg [.lit (.int .i64 v.1), .lit (.int .i64 v.2)]) []
theorem ref_Neg_ev {α : Type} (a0_0 : Int) (a0_1 : Int) (k : Kont α) : evFun Tryd.prog NrGE3 (ref_Neg_h0) false Tryd.f58 (bodyOf Tryd.f58) 60 (mkS [.agg (.pair (.int .i64) (.int .i64))] ((a0_0, a0_1), ())) (mkH [] ()) k = outOf (ref_Neg a0_0 a0_1) fun v => k (.agg [.lit (.int .i64 v.1), .lit (.int .i64 v.2)]) [] :=
  (show _ = ref_Neg_t a0_0 a0_1 (fun v => k (.agg [.lit (.int .i64 v.1), .lit (.int .i64 v.2)]) []) from by kernel_rfl).trans (ref_Neg_t_eq a0_0 a0_1 _)
theorem ref_Neg_good : TX.Good Tryd.prog 58 ref_Neg_sp := good_form NrGE3_ok mixed Tryd.func58 (body_of rfl) (by kernel_rfl) false fun α a m k r h => by
  obtain ⟨⟨a0_0, a0_1⟩, _⟩ := a; obtain _ := m
  exact ⟨ref_Neg_h0, 60, ref_Neg_h0_ok, rfl, (ref_Neg_ev a0_0 a0_1 k).trans h⟩
def ref_twice_h0 : Hints := Hints.nil 0
theorem ref_twice_h0_ok : ref_twice_h0.OK Tryd.prog (bodyOf Tryd.f137) := Hints.nil_ok
abbrev ref_twice_R : Type := (Int × Int)
noncomputable def ref_twice_t {γ : Type} (a0_0 : Int) (a0_1 : Int) (k : ref_twice_R → Option γ) : Option γ := outOf (ref_Add a0_0 a0_1 a0_0 a0_1) fun (x1 : (Int × Int)) => k (Prod.fst x1, Prod.snd x1)
noncomputable def ref_twice (a0_0 : Int) (a0_1 : Int) : Option ref_twice_R := ref_twice_t a0_0 a0_1 some
theorem ref_twice_t_eq {γ : Type} (a0_0 : Int) (a0_1 : Int) (k : ref_twice_R → Option γ) : ref_twice_t a0_0 a0_1 k = outOf (ref_twice a0_0 a0_1) k := by
  delta ref_twice ref_twice_t; exact (Tr.bd fun x1 => Tr.lf)
noncomputable def ref_twice_sp : TX.Spec := specD [.agg (.pair (.int .i64) (.int .i64))] [] fun _ a m k => match a, m with | ⟨⟨a0_0, a0_1⟩, _⟩, _ => outOf (ref_twice a0_0 a0_1) fun v => k (.agg [.lit (.int .i64 v.1), .lit (.int .i64 v.2)]) []
theorem ref_twice_ev {α : Type} (a0_0 : Int) (a0_1 : Int) (k : Kont α) : evFun Tryd.prog NrGE3 (ref_twice_h0) false Tryd.f137 (bodyOf Tryd.f137) 60 (mkS [.agg (.pair (.int .i64) (.int .i64))] ((a0_0, a0_1), ())) (mkH [] ()) k = outOf (ref_twice a0_0 a0_1) fun v => k (.agg [.lit (.int .i64 v.1), .lit (.int .i64 v.2)]) [] :=
  (show _ = ref_twice_t a0_0 a0_1 (fun v => k (.agg [.lit (.int .i64 v.1), .lit (.int .i64 v.2)]) []) from by kernel_rfl).trans (ref_twice_t_eq a0_0 a0_1 _)
theorem ref_twice_good : TX.Good Tryd.prog 137 ref_twice_sp := good_form NrGE3_ok mixed Tryd.func137 (body_of rfl) (by kernel_rfl) false fun α a m k r h => by
  obtain ⟨⟨a0_0, a0_1⟩, _⟩ := a; obtain _ := m
  exact ⟨ref_twice_h0, 60, ref_twice_h0_ok, rfl, (ref_twice_ev a0_0 a0_1 k).trans h⟩
noncomputable def NrGE4 : Env := NrGE3.add 58 true ref_Neg_sp |>.add 137 true ref_twice_sp
theorem NrGE4_ok : NrGE4.OK Tryd.prog := ((NrGE3_ok).add_ok ref_Neg_good).add_ok ref_twice_good
def ref_divide_h0 : Hints := Hints.nil 0
theorem ref_divide_h0_ok : ref_divide_h0.OK Tryd.prog (bodyOf Tryd.f123) := Hints.nil_ok
def ref_divide_L1_A : List SD := [.any, .any, .any, .any, .any, .loc 0 0 0, .loc 1 0 0, .val (.sl (.int .i64)), .rowz 2, .loc 3 0 0, .val (.int .i64), .any, .any, .any, .any, .any, .any, .any, .any, .any, .any, .any, .any, .any, .any, .any, .any, .any, .any, .any, .any, .any, .any, .any, .any, .any, .any, .any, .any, .any, .any, .any, .any, .any]
def ref_divide_L1_H : List HD := [.box [.val (.int .i64), .val (.int .i64)], .box [.val (.int .i64), .val (.int .i64)], .row (.int .i64), .box [.val (.int .i64), .val (.int .i64)]]
abbrev ref_divide_L1_D : Type := (List Int) × Nat × Int × Int × Int × Int × Int × (List Int) × Int × Int
def ref_divide_L1_to (a : DenS ref_divide_L1_A) (m : DenH ref_divide_L1_H) : ref_divide_L1_D := (a.2.2.2.2.2.2.2.1, a.2.2.2.2.2.2.2.2.1, a.2.2.2.2.2.2.2.2.2.2.1, m.1.1, m.1.2.1, m.2.1.1, m.2.1.2.1, m.2.2.1, m.2.2.2.1.1, m.2.2.2.1.2.1)
def ref_divide_L1_ofA (d : ref_divide_L1_D) : DenS ref_divide_L1_A := match d with | (s7, s8_n, s10, m0_0, m0_1, m1_0, m1_1, m2, m3_0, m3_1) => ((), (), (), (), (), (), (), s7, s8_n, (), s10, (), (), (), (), (), (), (), (), (), (), (), (), (), (), (), (), (), (), (), (), (), (), (), (), (), (), (), (), (), (), (), (), (), ())
def ref_divide_L1_ofH (d : ref_divide_L1_D) : DenH ref_divide_L1_H := match d with | (s7, s8_n, s10, m0_0, m0_1, m1_0, m1_1, m2, m3_0, m3_1) => ((m0_0, m0_1, ()), (m1_0, m1_1, ()), m2, (m3_0, m3_1, ()), ())
def ref_divide_L1_N : Norm := (⟨[5, 6, 7, 8, 9, 10], [], []⟩ : Go.TX.Norm)
def ref_divide_L1_X : Exit → Norm := fun e => match e with | .exit 0 => ⟨[5, 6, 8], [], []⟩ | _ => ⟨[], [], []⟩
abbrev ref_divide_L1_R : Type := (Nat × Int × Int × Int × Int × (List Int))
def ref_divide_L1_fin (v : ref_divide_L1_R) : Exit × St := ((.exit 0), ⟨[.any, .any, .any, .any, .any, .ptr 0 0 0, .ptr 1 0 0, .any, .msl 2 0 v.1, .any, .any, .any, .any, .any, .any, .any, .any, .any, .any, .any, .any, .any, .any, .any, .any, .any, .any, .any, .any, .any, .any, .any, .any, .any, .any, .any, .any, .any, .any, .any, .any, .any, .any, .any], [.box [.lit (.int .i64 v.2.1), .lit (.int .i64 v.2.2.1)], .box [.lit (.int .i64 v.2.2.2.1), .lit (.int .i64 v.2.2.2.2.1)], .row (.int .i64) v.2.2.2.2.2]⟩)
noncomputable def ref_divide_L1_t {γ : Type} (s7 : (List Int)) (s8_n : Nat) (s10 : Int) (m0_0 : Int) (m0_1 : Int) (m1_0 : Int) (m1_1 : Int) (m2 : (List Int)) (m3_0 : Int) (m3_1 : Int) (next : ref_divide_L1_D → Option γ) (out : ref_divide_L1_R → Option γ) : Option γ := cond (decide (s10 ≥ (0 : Int))) (outOf (ref_twice m1_0 m1_1) fun (x3 : (Int × Int)) => cond (decide ((0 : Int) ≤ s10 ∧ s10 < (↑(List.length s7) : Int))) (outOf (ref_Add (Prod.fst x3) (Prod.snd x3) (List.getD s7 (Int.toNat s10) (0 : Int)) (0 : Int)) fun (x4 : (Int × Int)) => outOf (ref_less (Prod.fst x4) (Prod.snd x4) m3_0 m3_1) fun (x5 : Bool) => cond (!x5) (outOf (ref_Neg m3_0 m3_1) fun (x6 : (Int × Int)) => outOf (ref_Add (Prod.fst x4) (Prod.snd x4) (Prod.fst x6) (Prod.snd x6)) fun (x7 : (Int × Int)) => cond (decide ((0 : Int) ≤ s10 ∧ s10 < (↑s8_n : Int))) (next (s7, s8_n, IntKind.wrap IntKind.i64 (s10 - (1 : Int)), m0_0, m0_1, Prod.fst x7, Prod.snd x7, List.set m2 ((0 : Nat) + Int.toNat s10) (1 : Int), m3_0, m3_1)) (none)) (next (s7, s8_n, IntKind.wrap IntKind.i64 (s10 - (1 : Int)), m0_0, m0_1, Prod.fst x4, Prod.snd x4, m2, m3_0, m3_1))) (none)) (out (s8_n, m0_0, m0_1, m1_0, m1_1, m2))
noncomputable def ref_divide_L1_pass (d : ref_divide_L1_D) : Option (ref_divide_L1_D ⊕ ref_divide_L1_R) := ref_divide_L1_t d.1 d.2.1 d.2.2.1 d.2.2.2.1 d.2.2.2.2.1 d.2.2.2.2.2.1 d.2.2.2.2.2.2.1 d.2.2.2.2.2.2.2.1 d.2.2.2.2.2.2.2.2.1 d.2.2.2.2.2.2.2.2.2 (fun d => some (.inl d)) (fun x => some (.inr x))
theorem ref_divide_L1_t_eq {γ : Type} (s7 : (List Int)) (s8_n : Nat) (s10 : Int) (m0_0 : Int) (m0_1 : Int) (m1_0 : Int) (m1_1 : Int) (m2 : (List Int)) (m3_0 : Int) (m3_1 : Int) (next : ref_divide_L1_D → Option γ) (out : ref_divide_L1_R → Option γ) : ref_divide_L1_t s7 s8_n s10 m0_0 m0_1 m1_0 m1_1 m2 m3_0 m3_1 next out = PassOf (ref_divide_L1_t s7 s8_n s10 m0_0 m0_1 m1_0 m1_1 m2 m3_0 m3_1 (fun d => some (.inl d)) (fun x => some (.inr x))) next out := by
  delta ref_divide_L1_t; exact (Ps.nd (Ps.bd fun x3 => (Ps.nd (Ps.bd fun x4 => (Ps.bd fun x5 => (Ps.nd (Ps.bd fun x6 => (Ps.bd fun x7 => (Ps.nd Ps.nx Ps.no))) Ps.nx))) Ps.no)) Ps.ou)
theorem ref_divide_L1_ev (α : Type) (d : ref_divide_L1_D) (next : ref_divide_L1_D → Option α) (k : Exit → St → Option α) : ev Tryd.prog NrGE4 ref_divide_h0 60 [0, 0, 1, 0, 1, 1, 1, 1, 1] ((codeAt (bodyOf Tryd.f123) [0, 0, 1, 0, 1, 1, 1, 1, 1]).getD .skip) ⟨mkS ref_divide_L1_A (ref_divide_L1_ofA d), mkH ref_divide_L1_H (ref_divide_L1_ofH d)⟩ (passK 0 ref_divide_L1_N ref_divide_L1_A ref_divide_L1_H ref_divide_L1_X (fun a m => next (ref_divide_L1_to a m)) k) = PassOf (ref_divide_L1_pass d) next fun x => k (ref_divide_L1_fin x).1 (ref_divide_L1_fin x).2 := by
  obtain ⟨s7, s8_n, s10, m0_0, m0_1, m1_0, m1_1, m2, m3_0, m3_1⟩ := d
  exact (show _ = ref_divide_L1_t s7 s8_n s10 m0_0 m0_1 m1_0 m1_1 m2 m3_0 m3_1 next (fun x => k (ref_divide_L1_fin x).1 (ref_divide_L1_fin x).2) from by kernel_rfl).trans (ref_divide_L1_t_eq s7 s8_n s10 m0_0 m0_1 m1_0 m1_1 m2 m3_0 m3_1 _ _)
noncomputable def ref_divide_L1 (d : ref_divide_L1_D) : Option ref_divide_L1_R := runs ref_divide_L1_pass d
noncomputable def ref_divide_L1_sp : CSpec := fun _ st k => reNorm 0 ref_divide_L1_N ref_divide_L1_A ref_divide_L1_H st fun a m => outOf (ref_divide_L1 (ref_divide_L1_to a m)) fun v => k (.exit 0) ⟨[.any, .any, .any, .any, .any, .ptr 0 0 0, .ptr 1 0 0, .any, .msl 2 0 v.1, .any, .any, .any, .any, .any, .any, .any, .any, .any, .any, .any, .any, .any, .any, .any, .any, .any, .any, .any, .any, .any, .any, .any, .any, .any, .any, .any, .any, .any, .any, .any, .any, .any, .any, .any], [.box [.lit (.int .i64 v.2.1), .lit (.int .i64 v.2.2.1)], .box [.lit (.int .i64 v.2.2.2.1), .lit (.int .i64 v.2.2.2.2.1)], .row (.int .i64) v.2.2.2.2.2]⟩
theorem ref_divide_L1_ok : SumOK Tryd.prog 0 (.loop ((codeAt (bodyOf Tryd.f123) [0, 0, 1, 0, 1, 1, 1, 1, 1]).getD .skip)) ref_divide_L1_sp := (SumOK.loop NrGE4_ok mixed ref_divide_h0_ok (show codeAt (bodyOf Tryd.f123) [0, 1, 0, 1, 1, 1, 1, 1] = some (.loop ((codeAt (bodyOf Tryd.f123) [0, 0, 1, 0, 1, 1, 1, 1, 1]).getD .skip)) from by kernel_rfl) (N := ref_divide_L1_N) (Nx := ref_divide_L1_X) (A := ref_divide_L1_A) (Hs := ref_divide_L1_H) (toD := ref_divide_L1_to) (ofA := ref_divide_L1_ofA) (ofH := ref_divide_L1_ofH) (fun _ _ => rfl) (fun _ _ => rfl) (pass := ref_divide_L1_pass) (fin := ref_divide_L1_fin) 60 ref_divide_L1_ev (steps ref_divide_L1_pass)).mono fun α st k r h => by
  refine Eq.trans (congrArg (reNorm 0 ref_divide_L1_N ref_divide_L1_A ref_divide_L1_H st) ?_) h
  funext a m
  exact outOf_congr fun x => rfl
noncomputable def ref_divide_L1_h : Hints := ref_divide_h0.add [0, 1, 0, 1, 1, 1, 1, 1] ref_divide_L1_sp
theorem ref_divide_L1_h_ok : ref_divide_L1_h.OK Tryd.prog (bodyOf Tryd.f123) := ref_divide_h0_ok.add (show codeAt (bodyOf Tryd.f123) [0, 1, 0, 1, 1, 1, 1, 1] = some (.loop ((codeAt (bodyOf Tryd.f123) [0, 0, 1, 0, 1, 1, 1, 1, 1]).getD .skip)) from by kernel_rfl) ref_divide_L1_ok
abbrev ref_divide_R : Type := (Int × Int × Int)
noncomputable def ref_divide_t {γ : Type} (a0_0 : Int) (a0_1 : Int) (a1 : Int) (k : ref_divide_R → Option γ) : Option γ := outOf (ref_bits a0_0 a0_1) fun (x8 : (List Int)) => outOf (ref_divide_L1 (x8, (128 : Nat), (127 : Int), (0 : Int), (0 : Int), (0 : Int), (0 : Int), List.replicate (128 : Nat) (0 : Int), a1, (0 : Int))) fun (x9 : (Nat × (Int × (Int × (Int × (Int × (List Int))))))) => outOf (ref_make2 (List.take (Prod.fst x9) (List.drop (0 : Nat) (Prod.snd (Prod.snd (Prod.snd (Prod.snd (Prod.snd x9)))))))) fun (x10 : (Int × Int)) => k (Prod.fst (Prod.snd (Prod.snd (Prod.snd x9))), Prod.fst x10, Prod.snd x10)
noncomputable def ref_divide (a0_0 : Int) (a0_1 : Int) (a1 : Int) : Option ref_divide_R := ref_divide_t a0_0 a0_1 a1 some
theorem ref_divide_t_eq {γ : Type} (a0_0 : Int) (a0_1 : Int) (a1 : Int) (k : ref_divide_R → Option γ) : ref_divide_t a0_0 a0_1 a1 k = outOf (ref_divide a0_0 a0_1 a1) k := by
  delta ref_divide ref_divide_t; exact (Tr.bd fun x8 => (Tr.bd fun x9 => (Tr.bd fun x10 => Tr.lf)))
noncomputable def ref_divide_sp : TX.Spec := specD [.agg (.pair (.int .i64) (.int .i64)), .val (.int .i64)] [] fun _ a m k => match a, m with | ⟨⟨a0_0, a0_1⟩, a1, _⟩, _ => outOf (ref_divide a0_0 a0_1 a1) fun v => k (.tup [.lit (.int .i64 v.1), .agg [.lit (.int .i64 v.2.1), .lit (.int .i64 v.2.2)]]) []
theorem ref_divide_ev {α : Type} (a0_0 : Int) (a0_1 : Int) (a1 : Int) (k : Kont α) : evFun Tryd.prog NrGE4 (ref_divide_L1_h) false Tryd.f123 (bodyOf Tryd.f123) 60 (mkS [.agg (.pair (.int .i64) (.int .i64)), .val (.int .i64)] ((a0_0, a0_1), a1, ())) (mkH [] ()) k = outOf (ref_divide a0_0 a0_1 a1) fun v => k (.tup [.lit (.int .i64 v.1), .agg [.lit (.int .i64 v.2.1), .lit (.int .i64 v.2.2)]]) [] :=
  (show _ = ref_divide_t a0_0 a0_1 a1 (fun v => k (.tup [.lit (.int .i64 v.1), .agg [.lit (.int .i64 v.2.1), .lit (.int .i64 v.2.2)]]) []) from by kernel_rfl).trans (ref_divide_t_eq a0_0 a0_1 a1 _)
theorem ref_divide_good : TX.Good Tryd.prog 123 ref_divide_sp := good_form NrGE4_ok mixed Tryd.func123 (body_of rfl) (by kernel_rfl) false fun α a m k r h => by
  obtain ⟨⟨a0_0, a0_1⟩, a1, _⟩ := a; obtain _ := m
  exact ⟨ref_divide_L1_h, 60, ref_divide_L1_h_ok, rfl, (ref_divide_ev a0_0 a0_1 a1 k).trans h⟩
noncomputable def NrGE5 : Env := NrGE4.add 123 true ref_divide_sp
theorem NrGE5_ok : NrGE5.OK Tryd.prog := (NrGE4_ok).add_ok ref_divide_good
def ref_UMod_h0 : Hints := Hints.nil 0
theorem ref_UMod_h0_ok : ref_UMod_h0.OK Tryd.prog (bodyOf Tryd.f102) := Hints.nil_ok
abbrev ref_UMod_R : Type := (Int × Int × Int)
noncomputable def ref_UMod_t {γ : Type} (a0_0 : Int) (a0_1 : Int) (a1 : Int) (k : ref_UMod_R → Option γ) : Option γ := cond (a1 == (0 : Int)) (k ((0 : Int), (0 : Int), (-10 : Int))) (outOf (ref_divide a0_0 a0_1 a1) fun (x1 : (Int × (Int × Int))) => cond (Prod.snd (Prod.snd x1) != (0 : Int)) (k ((0 : Int), (0 : Int), (-11 : Int))) (k (Prod.fst x1, Prod.fst (Prod.snd x1), (0 : Int))))
noncomputable def ref_UMod (a0_0 : Int) (a0_1 : Int) (a1 : Int) : Option ref_UMod_R := ref_UMod_t a0_0 a0_1 a1 some
theorem ref_UMod_t_eq {γ : Type} (a0_0 : Int) (a0_1 : Int) (a1 : Int) (k : ref_UMod_R → Option γ) : ref_UMod_t a0_0 a0_1 a1 k = outOf (ref_UMod a0_0 a0_1 a1) k := by
  delta ref_UMod ref_UMod_t; exact (Tr.nd Tr.lf (Tr.bd fun x1 => (Tr.nd Tr.lf Tr.lf)))
noncomputable def ref_UMod_sp : TX.Spec := specD [.agg (.pair (.int .i64) (.int .i64)), .val (.int .i64)] [] fun _ a m k => match a, m with | ⟨⟨a0_0, a0_1⟩, a1, _⟩, _ => outOf (ref_UMod a0_0 a0_1 a1) fun v => k (.tup [.lit (.int .i64 v.1), .lit (.int .i64 v.2.1), .lit (.int .i64 v.2.2)]) []
theorem ref_UMod_ev {α : Type} (a0_0 : Int) (a0_1 : Int) (a1 : Int) (k : Kont α) : evFun Tryd.prog NrGE5 (ref_UMod_h0) false Tryd.f102 (bodyOf Tryd.f102) 60 (mkS [.agg (.pair (.int .i64) (.int .i64)), .val (.int .i64)] ((a0_0, a0_1), a1, ())) (mkH [] ()) k = outOf (ref_UMod a0_0 a0_1 a1) fun v => k (.tup [.lit (.int .i64 v.1), .lit (.int .i64 v.2.1), .lit (.int .i64 v.2.2)]) [] :=
  (show _ = ref_UMod_t a0_0 a0_1 a1 (fun v => k (.tup [.lit (.int .i64 v.1), .lit (.int .i64 v.2.1), .lit (.int .i64 v.2.2)]) []) from by kernel_rfl).trans (ref_UMod_t_eq a0_0 a0_1 a1 _)
theorem ref_UMod_good : TX.Good Tryd.prog 102 ref_UMod_sp := good_form NrGE5_ok mixed Tryd.func102 (body_of rfl) (by kernel_rfl) false fun α a m k r h => by
  obtain ⟨⟨a0_0, a0_1⟩, a1, _⟩ := a; obtain _ := m
  exact ⟨ref_UMod_h0, 60, ref_UMod_h0_ok, rfl, (ref_UMod_ev a0_0 a0_1 a1 k).trans h⟩
noncomputable def NrGE6 : Env := NrGE5.add 102 true ref_UMod_sp
theorem NrGE6_ok : NrGE6.OK Tryd.prog := (NrGE5_ok).add_ok ref_UMod_good
def r5_high_h0 : Hints := Hints.nil 0
theorem r5_high_h0_ok : r5_high_h0.OK Tryd.prog (bodyOf Tryd.f92) := Hints.nil_ok
abbrev r5_high_R : Type := (Int × Int × Int × Bool)
noncomputable def r5_high_t {γ : Type} (a0_0 : Int) (a0_1 : Int) (a1 : Int) (k : r5_high_R → Option γ) : Option γ := outOf (ref_UMod a0_1 (0 : Int) a1) fun (x1 : (Int × (Int × Int))) => outOf (ref_UMod a0_0 (Prod.fst x1) a1) fun (x2 : (Int × (Int × Int))) => k (Prod.fst (Prod.snd x2), Prod.fst (Prod.snd x1), Prod.fst x2, Prod.snd (Prod.snd x2) == (0 : Int))
noncomputable def r5_high (a0_0 : Int) (a0_1 : Int) (a1 : Int) : Option r5_high_R := r5_high_t a0_0 a0_1 a1 some
theorem r5_high_t_eq {γ : Type} (a0_0 : Int) (a0_1 : Int) (a1 : Int) (k : r5_high_R → Option γ) : r5_high_t a0_0 a0_1 a1 k = outOf (r5_high a0_0 a0_1 a1) k := by
  delta r5_high r5_high_t; exact (Tr.bd fun x1 => (Tr.bd fun x2 => Tr.lf))
noncomputable def r5_high_sp : TX.Spec := specD [.agg (.pair (.int .i64) (.int .i64)), .val (.int .i64)] [] fun _ a m k => match a, m with | ⟨⟨a0_0, a0_1⟩, a1, _⟩, _ => outOf (r5_high a0_0 a0_1 a1) fun v => k (.tup [.agg [.lit (.int .i64 v.1), .lit (.int .i64 v.2.1)], .lit (.int .i64 v.2.2.1), .lit (.bool v.2.2.2)]) []
theorem r5_high_ev {α : Type} (a0_0 : Int) (a0_1 : Int) (a1 : Int) (k : Kont α) : evFun Tryd.prog NrGE6 (r5_high_h0) false Tryd.f92 (bodyOf Tryd.f92) 60 (mkS [.agg (.pair (.int .i64) (.int .i64)), .val (.int .i64)] ((a0_0, a0_1), a1, ())) (mkH [] ()) k = outOf (r5_high a0_0 a0_1 a1) fun v => k (.tup [.agg [.lit (.int .i64 v.1), .lit (.int .i64 v.2.1)], .lit (.int .i64 v.2.2.1), .lit (.bool v.2.2.2)]) [] :=
  (show _ = r5_high_t a0_0 a0_1 a1 (fun v => k (.tup [.agg [.lit (.int .i64 v.1), .lit (.int .i64 v.2.1)], .lit (.int .i64 v.2.2.1), .lit (.bool v.2.2.2)]) []) from by kernel_rfl).trans (r5_high_t_eq a0_0 a0_1 a1 _)
theorem r5_high_good : TX.Good Tryd.prog 92 r5_high_sp := good_form NrGE6_ok mixed Tryd.func92 (body_of rfl) (by kernel_rfl) false fun α a m k r h => by
  obtain ⟨⟨a0_0, a0_1⟩, a1, _⟩ := a; obtain _ := m
  exact ⟨r5_high_h0, 60, r5_high_h0_ok, rfl, (r5_high_ev a0_0 a0_1 a1 k).trans h⟩
noncomputable def NrGE7 : Env := NrGE6.add 92 true r5_high_sp
theorem NrGE7_ok : NrGE7.OK Tryd.prog := (NrGE6_ok).add_ok r5_high_good
noncomputable def NrGE8 : Env := NrGE7
theorem NrGE8_ok : NrGE8.OK Tryd.prog := NrGE7_ok
noncomputable def NrGE9 : Env := NrGE8
theorem NrGE9_ok : NrGE9.OK Tryd.prog := NrGE8_ok
noncomputable def NrGE10 : Env := NrGE9
theorem NrGE10_ok : NrGE10.OK Tryd.prog := NrGE9_ok
noncomputable def NrGE11 : Env := NrGE10
theorem NrGE11_ok : NrGE11.OK Tryd.prog := NrGE10_ok
end Go.Proofs.Dbl
