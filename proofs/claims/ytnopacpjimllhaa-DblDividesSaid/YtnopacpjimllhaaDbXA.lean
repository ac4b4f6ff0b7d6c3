import Derived.Test.YtnopacpjimllhaaTxW
import Derived.Test.YtnopacpjimllhaaProg
import Derived.KernelRfl
namespace Go.Proofs.Dbl
open Go Go.TX Go.Proofs
set_option maxRecDepth 100000
set_option linter.unusedVariables false
set_option maxHeartbeats 0
theorem mixed : Try.prog.follows .mixedOrders = true := by kernel_rfl
noncomputable def E1 : Env := Env.nil.add 46 true add64_sp
theorem E1_ok : E1.OK Try.prog := Env.nil_ok.add_ok (add64_good Try.func46 (by kernel_rfl) (by kernel_rfl) (by kernel_rfl) (by kernel_rfl))
/-! f18 tenterhook/dbl.Of -/
def dbl_Of_h0 : Hints := Hints.nil 0
theorem dbl_Of_h0_ok : dbl_Of_h0.OK Try.prog (bodyOf Try.f18) := Hints.nil_ok
noncomputable def dbl_Of (a0 : Int) : Int × Int := (a0, Int.fdiv a0 (9223372036854775808 : Int))
noncomputable def dbl_Of_sp : TX.Spec := specD [.val (.int .i64)] [] fun _ a m k => match a, m with | ⟨a0, _⟩, _ => k (.agg [.lit (.int .i64 ((dbl_Of a0).1)), .lit (.int .i64 ((dbl_Of a0).2))]) []
theorem dbl_Of_ev {α : Type} (a0 : Int) (k : Kont α) : evFun Try.prog E1 (dbl_Of_h0) false Try.f18 (bodyOf Try.f18) 60 (mkS [.val (.int .i64)] (a0, ())) (mkH [] ()) k = k (.agg [.lit (.int .i64 ((dbl_Of a0).1)), .lit (.int .i64 ((dbl_Of a0).2))]) [] :=
  by kernel_rfl
theorem dbl_Of_good : TX.Good Try.prog 18 dbl_Of_sp := good_form E1_ok mixed Try.func18 (body_of rfl) (by kernel_rfl) false fun α a m k r h => by
  obtain ⟨a0, _⟩ := a; obtain _ := m
  exact ⟨dbl_Of_h0, 60, dbl_Of_h0_ok, rfl, (dbl_Of_ev a0 k).trans h⟩
/-! f16 tenterhook/dbl.Add -/
def dbl_Add_h0 : Hints := Hints.nil 0
theorem dbl_Add_h0_ok : dbl_Add_h0.OK Try.prog (bodyOf Try.f16) := Hints.nil_ok
abbrev dbl_Add_R : Type := (Int × Int)
noncomputable def dbl_Add_t {γ : Type} (a0_0 : Int) (a0_1 : Int) (a1_0 : Int) (a1_1 : Int) (k : dbl_Add_R → Option γ) : Option γ := cond (decide ((0 : Int) ≤ IntKind.wrap IntKind.u64 a0_0 ∧ (0 : Int) ≤ IntKind.wrap IntKind.u64 a1_0 ∧ (0 : Int) ≤ (0 : Int) ∧ (0 : Int) ≤ (1 : Int))) (cond (decide ((0 : Int) ≤ IntKind.wrap IntKind.u64 a0_1 ∧ (0 : Int) ≤ IntKind.wrap IntKind.u64 a1_1 ∧ (0 : Int) ≤ (IntKind.wrap IntKind.u64 a0_0 + IntKind.wrap IntKind.u64 a1_0 + (0 : Int)) / (18446744073709551616 : Int) ∧ (IntKind.wrap IntKind.u64 a0_0 + IntKind.wrap IntKind.u64 a1_0 + (0 : Int)) / (18446744073709551616 : Int) ≤ (1 : Int))) (k (IntKind.wrap IntKind.i64 ((IntKind.wrap IntKind.u64 a0_0 + IntKind.wrap IntKind.u64 a1_0 + (0 : Int)) % (18446744073709551616 : Int)), IntKind.wrap IntKind.i64 ((IntKind.wrap IntKind.u64 a0_1 + IntKind.wrap IntKind.u64 a1_1 + (IntKind.wrap IntKind.u64 a0_0 + IntKind.wrap IntKind.u64 a1_0 + (0 : Int)) / (18446744073709551616 : Int)) % (18446744073709551616 : Int)))) (none)) (none)
noncomputable def dbl_Add (a0_0 : Int) (a0_1 : Int) (a1_0 : Int) (a1_1 : Int) : Option dbl_Add_R := dbl_Add_t a0_0 a0_1 a1_0 a1_1 some
theorem dbl_Add_t_eq {γ : Type} (a0_0 : Int) (a0_1 : Int) (a1_0 : Int) (a1_1 : Int) (k : dbl_Add_R → Option γ) : dbl_Add_t a0_0 a0_1 a1_0 a1_1 k = outOf (dbl_Add a0_0 a0_1 a1_0 a1_1) k := by
  delta dbl_Add dbl_Add_t; exact (Tr.nd (Tr.nd Tr.lf Tr.no) Tr.no)
noncomputable def dbl_Add_sp : TX.Spec := specD [.agg (.pair (.int .i64) (.int .i64)), .agg (.pair (.int .i64) (.int .i64))] [] fun _ a m k => match a, m with | ⟨⟨a0_0, a0_1⟩, ⟨a1_0, a1_1⟩, _⟩, _ => outOf (dbl_Add a0_0 a0_1 a1_0 a1_1) fun v => k (.agg [.lit (.int .i64 v.1), .lit (.int .i64 v.2)]) []
theorem dbl_Add_ev {α : Type} (a0_0 : Int) (a0_1 : Int) (a1_0 : Int) (a1_1 : Int) (k : Kont α) : evFun Try.prog E1 (dbl_Add_h0) false Try.f16 (bodyOf Try.f16) 60 (mkS [.agg (.pair (.int .i64) (.int .i64)), .agg (.pair (.int .i64) (.int .i64))] ((a0_0, a0_1), (a1_0, a1_1), ())) (mkH [] ()) k = outOf (dbl_Add a0_0 a0_1 a1_0 a1_1) fun v => k (.agg [.lit (.int .i64 v.1), .lit (.int .i64 v.2)]) [] :=
  (show _ = dbl_Add_t a0_0 a0_1 a1_0 a1_1 (fun v => k (.agg [.lit (.int .i64 v.1), .lit (.int .i64 v.2)]) []) from by kernel_rfl).trans (dbl_Add_t_eq a0_0 a0_1 a1_0 a1_1 _)
theorem dbl_Add_good : TX.Good Try.prog 16 dbl_Add_sp := good_form E1_ok mixed Try.func16 (body_of rfl) (by kernel_rfl) false fun α a m k r h => by
  obtain ⟨⟨a0_0, a0_1⟩, ⟨a1_0, a1_1⟩, _⟩ := a; obtain _ := m
  exact ⟨dbl_Add_h0, 60, dbl_Add_h0_ok, rfl, (dbl_Add_ev a0_0 a0_1 a1_0 a1_1 k).trans h⟩
/-! f61 cmp.isNaN[int] -/
def cmpNanI_h0 : Hints := Hints.nil 0
theorem cmpNanI_h0_ok : cmpNanI_h0.OK Try.prog (bodyOf Try.f61) := Hints.nil_ok
noncomputable def cmpNanI (a0 : Int) : Bool := (a0 != a0)
noncomputable def cmpNanI_sp : TX.Spec := specD [.val (.int .i64)] [] fun _ a m k => match a, m with | ⟨a0, _⟩, _ => k (.lit (.bool (cmpNanI a0))) []
theorem cmpNanI_ev {α : Type} (a0 : Int) (k : Kont α) : evFun Try.prog E1 (cmpNanI_h0) false Try.f61 (bodyOf Try.f61) 60 (mkS [.val (.int .i64)] (a0, ())) (mkH [] ()) k = k (.lit (.bool (cmpNanI a0))) [] :=
  by kernel_rfl
theorem cmpNanI_good : TX.Good Try.prog 61 cmpNanI_sp := good_form E1_ok mixed Try.func61 (body_of rfl) (by kernel_rfl) false fun α a m k r h => by
  obtain ⟨a0, _⟩ := a; obtain _ := m
  exact ⟨cmpNanI_h0, 60, cmpNanI_h0_ok, rfl, (cmpNanI_ev a0 k).trans h⟩
/-! f62 cmp.isNaN[uint64] -/
def cmpNanU_h0 : Hints := Hints.nil 0
theorem cmpNanU_h0_ok : cmpNanU_h0.OK Try.prog (bodyOf Try.f62) := Hints.nil_ok
noncomputable def cmpNanU (a0 : Int) : Bool := (a0 != a0)
noncomputable def cmpNanU_sp : TX.Spec := specD [.val (.int .u64)] [] fun _ a m k => match a, m with | ⟨a0, _⟩, _ => k (.lit (.bool (cmpNanU a0))) []
theorem cmpNanU_ev {α : Type} (a0 : Int) (k : Kont α) : evFun Try.prog E1 (cmpNanU_h0) false Try.f62 (bodyOf Try.f62) 60 (mkS [.val (.int .u64)] (a0, ())) (mkH [] ()) k = k (.lit (.bool (cmpNanU a0))) [] :=
  by kernel_rfl
theorem cmpNanU_good : TX.Good Try.prog 62 cmpNanU_sp := good_form E1_ok mixed Try.func62 (body_of rfl) (by kernel_rfl) false fun α a m k r h => by
  obtain ⟨a0, _⟩ := a; obtain _ := m
  exact ⟨cmpNanU_h0, 60, cmpNanU_h0_ok, rfl, (cmpNanU_ev a0 k).trans h⟩
/-! f53 math/bits.Mul64 -/
def mul64_h0 : Hints := Hints.nil 0
theorem mul64_h0_ok : mul64_h0.OK Try.prog (bodyOf Try.f53) := Hints.nil_ok
noncomputable def mul64 (a0 : Int) (a1 : Int) : Int × Int := (IntKind.wrap IntKind.u64 (IntKind.wrap IntKind.u64 (IntKind.wrap IntKind.u64 (Int.fdiv a0 (4294967296 : Int) * Int.fdiv a1 (4294967296 : Int)) + Int.fdiv (IntKind.wrap IntKind.u64 (IntKind.wrap IntKind.u64 (Int.fdiv a0 (4294967296 : Int) * ibits BinOp.and IntKind.u64 a1 (4294967295 : Int)) + Int.fdiv (IntKind.wrap IntKind.u64 (ibits BinOp.and IntKind.u64 a0 (4294967295 : Int) * ibits BinOp.and IntKind.u64 a1 (4294967295 : Int))) (4294967296 : Int))) (4294967296 : Int)) + Int.fdiv (IntKind.wrap IntKind.u64 (ibits BinOp.and IntKind.u64 (IntKind.wrap IntKind.u64 (IntKind.wrap IntKind.u64 (Int.fdiv a0 (4294967296 : Int) * ibits BinOp.and IntKind.u64 a1 (4294967295 : Int)) + Int.fdiv (IntKind.wrap IntKind.u64 (ibits BinOp.and IntKind.u64 a0 (4294967295 : Int) * ibits BinOp.and IntKind.u64 a1 (4294967295 : Int))) (4294967296 : Int))) (4294967295 : Int) + IntKind.wrap IntKind.u64 (ibits BinOp.and IntKind.u64 a0 (4294967295 : Int) * Int.fdiv a1 (4294967296 : Int)))) (4294967296 : Int)), IntKind.wrap IntKind.u64 (a0 * a1))
noncomputable def mul64_sp : TX.Spec := specD [.val (.int .u64), .val (.int .u64)] [] fun _ a m k => match a, m with | ⟨a0, a1, _⟩, _ => k (.tup [.lit (.int .u64 ((mul64 a0 a1).1)), .lit (.int .u64 ((mul64 a0 a1).2))]) []
theorem mul64_ev {α : Type} (a0 : Int) (a1 : Int) (k : Kont α) : evFun Try.prog E1 (mul64_h0) false Try.f53 (bodyOf Try.f53) 60 (mkS [.val (.int .u64), .val (.int .u64)] (a0, a1, ())) (mkH [] ()) k = k (.tup [.lit (.int .u64 ((mul64 a0 a1).1)), .lit (.int .u64 ((mul64 a0 a1).2))]) [] :=
  by kernel_rfl
theorem mul64_good : TX.Good Try.prog 53 mul64_sp := good_form E1_ok mixed Try.func53 (body_of rfl) (by kernel_rfl) false fun α a m k r h => by
  obtain ⟨a0, a1, _⟩ := a; obtain _ := m
  exact ⟨mul64_h0, 60, mul64_h0_ok, rfl, (mul64_ev a0 a1 k).trans h⟩
/-! f36 tenterhook/cell.Ult -/
def cell_Ult_h0 : Hints := Hints.nil 0
theorem cell_Ult_h0_ok : cell_Ult_h0.OK Try.prog (bodyOf Try.f36) := Hints.nil_ok
noncomputable def cell_Ult (a0 : Int) (a1 : Int) : Bool := (decide (IntKind.wrap IntKind.u64 a0 < IntKind.wrap IntKind.u64 a1))
noncomputable def cell_Ult_sp : TX.Spec := specD [.val (.int .i64), .val (.int .i64)] [] fun _ a m k => match a, m with | ⟨a0, a1, _⟩, _ => k (.lit (.bool (cell_Ult a0 a1))) []
theorem cell_Ult_ev {α : Type} (a0 : Int) (a1 : Int) (k : Kont α) : evFun Try.prog E1 (cell_Ult_h0) false Try.f36 (bodyOf Try.f36) 60 (mkS [.val (.int .i64), .val (.int .i64)] (a0, a1, ())) (mkH [] ()) k = k (.lit (.bool (cell_Ult a0 a1))) [] :=
  by kernel_rfl
theorem cell_Ult_good : TX.Good Try.prog 36 cell_Ult_sp := good_form E1_ok mixed Try.func36 (body_of rfl) (by kernel_rfl) false fun α a m k r h => by
  obtain ⟨a0, a1, _⟩ := a; obtain _ := m
  exact ⟨cell_Ult_h0, 60, cell_Ult_h0_ok, rfl, (cell_Ult_ev a0 a1 k).trans h⟩
/-! f47 cmp.Or[int] -/
def cmpOr_h0 : Hints := Hints.nil 0
theorem cmpOr_h0_ok : cmpOr_h0.OK Try.prog (bodyOf Try.f47) := Hints.nil_ok
def cmpOr_L1_A : List SD := [.any, .any, .any, .val (.int .i64), .any, .any, .val (.sl (.int .i64)), .val (.int .i64), .val (.int .i64), .any, .any, .any, .any, .any, .any, .any, .any, .any]
def cmpOr_L1_H : List HD := []
abbrev cmpOr_L1_D : Type := Int × (List (Sh.Den (.int .i64))) × Int × Int
def cmpOr_L1_to (a : DenS cmpOr_L1_A) (m : DenH cmpOr_L1_H) : cmpOr_L1_D := (a.2.2.2.1, a.2.2.2.2.2.2.1, a.2.2.2.2.2.2.2.1, a.2.2.2.2.2.2.2.2.1)
def cmpOr_L1_ofA (d : cmpOr_L1_D) : DenS cmpOr_L1_A := match d with | (s3, s6, s7, s8) => ((), (), (), s3, (), (), s6, s7, s8, (), (), (), (), (), (), (), (), (), ())
def cmpOr_L1_ofH (d : cmpOr_L1_D) : DenH cmpOr_L1_H := match d with | (s3, s6, s7, s8) => ()
def cmpOr_L1_N : Norm := (⟨[3, 6, 7, 8], [], []⟩ : Norm)
def cmpOr_L1_X : Exit → Norm := fun e => match e with | .exit 0 => ⟨[3], [], []⟩ | .ret => ⟨[2], [], []⟩ | _ => ⟨[], [], []⟩
abbrev cmpOr_L1_R : Type := ((Int) ⊕ (Int))
def cmpOr_L1_fin (v : cmpOr_L1_R) : Exit × St := sumOf v (fun v => (.ret, ⟨[.any, .any, .lit (.int .i64 v), .any, .any, .any, .any, .any, .any, .any, .any, .any, .any, .any, .any, .any, .any, .any], []⟩)) (fun v => ((.exit 0), ⟨[.any, .any, .any, .lit (.int .i64 v), .any, .any, .any, .any, .any, .any, .any, .any, .any, .any, .any, .any, .any, .any], []⟩))
noncomputable def cmpOr_L1_t {γ : Type} (s3 : Int) (s6 : (List (Sh.Den (.int .i64)))) (s7 : Int) (s8 : Int) (next : cmpOr_L1_D → Option γ) (out : cmpOr_L1_R → Option γ) : Option γ := cond (decide (s8 < s7)) (cond (decide ((0 : Int) ≤ s8 ∧ s8 < (↑(List.length s6) : Int))) (cond (List.getD s6 (Int.toNat s8) (0 : Int) != s3) (out (.inl (List.getD s6 (Int.toNat s8) (0 : Int)))) (next (s3, s6, s7, IntKind.wrap IntKind.i64 (s8 + (1 : Int))))) (none)) (out (.inr (s3)))
noncomputable def cmpOr_L1_pass (d : cmpOr_L1_D) : Option (cmpOr_L1_D ⊕ cmpOr_L1_R) := cmpOr_L1_t d.1 d.2.1 d.2.2.1 d.2.2.2 (fun d => some (.inl d)) (fun x => some (.inr x))
theorem cmpOr_L1_t_eq {γ : Type} (s3 : Int) (s6 : (List (Sh.Den (.int .i64)))) (s7 : Int) (s8 : Int) (next : cmpOr_L1_D → Option γ) (out : cmpOr_L1_R → Option γ) : cmpOr_L1_t s3 s6 s7 s8 next out = PassOf (cmpOr_L1_t s3 s6 s7 s8 (fun d => some (.inl d)) (fun x => some (.inr x))) next out := by
  delta cmpOr_L1_t; exact (Ps.nd (Ps.nd (Ps.nd Ps.ou Ps.nx) Ps.no) Ps.ou)
theorem cmpOr_L1_ev (α : Type) (d : cmpOr_L1_D) (next : cmpOr_L1_D → Option α) (k : Exit → St → Option α) : ev Try.prog E1 cmpOr_h0 60 [0, 0, 1, 0, 1, 1] ((codeAt (bodyOf Try.f47) [0, 0, 1, 0, 1, 1]).getD .skip) ⟨mkS cmpOr_L1_A (cmpOr_L1_ofA d), mkH cmpOr_L1_H (cmpOr_L1_ofH d)⟩ (passK 0 cmpOr_L1_N cmpOr_L1_A cmpOr_L1_H cmpOr_L1_X (fun a m => next (cmpOr_L1_to a m)) k) = PassOf (cmpOr_L1_pass d) next fun x => k (cmpOr_L1_fin x).1 (cmpOr_L1_fin x).2 := by
  obtain ⟨s3, s6, s7, s8⟩ := d
  exact (show _ = cmpOr_L1_t s3 s6 s7 s8 next (fun x => k (cmpOr_L1_fin x).1 (cmpOr_L1_fin x).2) from by kernel_rfl).trans (cmpOr_L1_t_eq s3 s6 s7 s8 _ _)
noncomputable def cmpOr_L1 (d : cmpOr_L1_D) : Option cmpOr_L1_R := runs cmpOr_L1_pass d
noncomputable def cmpOr_L1_sp : CSpec := fun _ st k => reNorm 0 cmpOr_L1_N cmpOr_L1_A cmpOr_L1_H st fun a m => outOf (cmpOr_L1 (cmpOr_L1_to a m)) fun v => sumOf v (fun v => k .ret ⟨[.any, .any, .lit (.int .i64 v), .any, .any, .any, .any, .any, .any, .any, .any, .any, .any, .any, .any, .any, .any, .any], []⟩) (fun v => k (.exit 0) ⟨[.any, .any, .any, .lit (.int .i64 v), .any, .any, .any, .any, .any, .any, .any, .any, .any, .any, .any, .any, .any, .any], []⟩)
theorem cmpOr_L1_ok : SumOK Try.prog 0 (.loop ((codeAt (bodyOf Try.f47) [0, 0, 1, 0, 1, 1]).getD .skip)) cmpOr_L1_sp := (SumOK.loop E1_ok mixed cmpOr_h0_ok (show codeAt (bodyOf Try.f47) [0, 1, 0, 1, 1] = some (.loop ((codeAt (bodyOf Try.f47) [0, 0, 1, 0, 1, 1]).getD .skip)) from by kernel_rfl) (N := cmpOr_L1_N) (Nx := cmpOr_L1_X) (A := cmpOr_L1_A) (Hs := cmpOr_L1_H) (toD := cmpOr_L1_to) (ofA := cmpOr_L1_ofA) (ofH := cmpOr_L1_ofH) (fun _ _ => rfl) (fun _ _ => rfl) (pass := cmpOr_L1_pass) (fin := cmpOr_L1_fin) 60 cmpOr_L1_ev (steps cmpOr_L1_pass)).mono fun α st k r h => by
  refine Eq.trans (congrArg (reNorm 0 cmpOr_L1_N cmpOr_L1_A cmpOr_L1_H st) ?_) h
  funext a m
  exact outOf_congr fun x => by rcases x with x | x <;> rfl
noncomputable def cmpOr_L1_h : Hints := cmpOr_h0.add [0, 1, 0, 1, 1] cmpOr_L1_sp
theorem cmpOr_L1_h_ok : cmpOr_L1_h.OK Try.prog (bodyOf Try.f47) := cmpOr_h0_ok.add (show codeAt (bodyOf Try.f47) [0, 1, 0, 1, 1] = some (.loop ((codeAt (bodyOf Try.f47) [0, 0, 1, 0, 1, 1]).getD .skip)) from by kernel_rfl) cmpOr_L1_ok
abbrev cmpOr_R : Type := (Int)
noncomputable def cmpOr_t {γ : Type} (a0 : (List (Sh.Den (.int .i64)))) (k : cmpOr_R → Option γ) : Option γ := outOf (cmpOr_L1 ((0 : Int), a0, (↑(List.length a0) : Int), (0 : Int))) fun (x1 : Int ⊕ Int) => sumOf x1 (fun x2 => k (x2)) (fun x3 => k (x3))
noncomputable def cmpOr (a0 : (List (Sh.Den (.int .i64)))) : Option cmpOr_R := cmpOr_t a0 some
theorem cmpOr_t_eq {γ : Type} (a0 : (List (Sh.Den (.int .i64)))) (k : cmpOr_R → Option γ) : cmpOr_t a0 k = outOf (cmpOr a0) k := by
  delta cmpOr cmpOr_t; exact (Tr.bd fun x1 => (Tr.cs (fun x2 => Tr.lf) (fun x3 => Tr.lf)))
noncomputable def cmpOr_sp : TX.Spec := specD [.val (.sl (.int .i64))] [] fun _ a m k => match a, m with | ⟨a0, _⟩, _ => outOf (cmpOr a0) fun v => k (.lit (.int .i64 v)) []
theorem cmpOr_ev {α : Type} (a0 : (List (Sh.Den (.int .i64)))) (k : Kont α) : evFun Try.prog E1 (cmpOr_L1_h) false Try.f47 (bodyOf Try.f47) 60 (mkS [.val (.sl (.int .i64))] (a0, ())) (mkH [] ()) k = outOf (cmpOr a0) fun v => k (.lit (.int .i64 v)) [] :=
  (show _ = cmpOr_t a0 (fun v => k (.lit (.int .i64 v)) []) from by kernel_rfl).trans (cmpOr_t_eq a0 _)
theorem cmpOr_good : TX.Good Try.prog 47 cmpOr_sp := good_form E1_ok mixed Try.func47 (body_of rfl) (by kernel_rfl) false fun α a m k r h => by
  obtain ⟨a0, _⟩ := a; obtain _ := m
  exact ⟨cmpOr_L1_h, 60, cmpOr_L1_h_ok, rfl, (cmpOr_ev a0 k).trans h⟩
/-! f52 tenterhook/dbl.long -/
def dbl_long_h0 : Hints := Hints.nil 0
theorem dbl_long_h0_ok : dbl_long_h0.OK Try.prog (bodyOf Try.f52) := Hints.nil_ok
def dbl_long_M1_A : List SD := [.any, .any, .loc 0 0 0, .any, .any, .loc 1 0 0, .val (.int .u64), .loc 2 0 0, .val (.int .u64), .val (.int .i64), .val (.int .i64), .any, .any, .any, .any, .any, .any, .any, .any, .any, .any, .any, .any, .any, .any, .any, .any, .any, .any, .any, .any, .any, .any, .any, .any, .any, .any, .any, .any, .any, .any, .any, .any, .any, .any, .any, .any, .any, .any, .any, .any, .any, .any, .any, .any, .any, .any, .any, .any, .any, .any, .any, .any, .any, .any, .any]
def dbl_long_M1_H : List HD := [.box [.val (.int .i64), .val (.int .i64)], .box [.val (.int .i64), .val (.int .i64)], .box [.val (.int .i64), .val (.int .i64)]]
abbrev dbl_long_M1_D : Type := Int × Int × Int × Int × Int × Int × Int × Int × Int × Int
def dbl_long_M1_to (a : DenS dbl_long_M1_A) (m : DenH dbl_long_M1_H) : dbl_long_M1_D := (a.2.2.2.2.2.2.1, a.2.2.2.2.2.2.2.2.1, a.2.2.2.2.2.2.2.2.2.1, a.2.2.2.2.2.2.2.2.2.2.1, m.1.1, m.1.2.1, m.2.1.1, m.2.1.2.1, m.2.2.1.1, m.2.2.1.2.1)
def dbl_long_M1_ofA (d : dbl_long_M1_D) : DenS dbl_long_M1_A := match d with | (s6, s8, s9, s10, m0_0, m0_1, m1_0, m1_1, m2_0, m2_1) => ((), (), (), (), (), (), s6, (), s8, s9, s10, (), (), (), (), (), (), (), (), (), (), (), (), (), (), (), (), (), (), (), (), (), (), (), (), (), (), (), (), (), (), (), (), (), (), (), (), (), (), (), (), (), (), (), (), (), (), (), (), (), (), (), (), (), (), (), ())
def dbl_long_M1_ofH (d : dbl_long_M1_D) : DenH dbl_long_M1_H := match d with | (s6, s8, s9, s10, m0_0, m0_1, m1_0, m1_1, m2_0, m2_1) => ((m0_0, m0_1, ()), (m1_0, m1_1, ()), (m2_0, m2_1, ()), ())
def dbl_long_M1_N : Norm := (⟨[2, 5, 6, 7, 8, 9, 10], [], []⟩ : Norm)
def dbl_long_M1_X : Exit → Norm := fun e => match e with | .normal => ⟨[2, 5, 6, 7, 8, 9, 10], [], []⟩ | _ => ⟨[], [], []⟩
abbrev dbl_long_M1_R : Type := (Int)
def dbl_long_M1_fin (d : dbl_long_M1_D) (v : dbl_long_M1_R) : Exit × St := (.normal, ⟨[.any, .any, .ptr 0 0 0, .any, .any, .ptr 1 0 0, .lit (.int .u64 d.1), .ptr 2 0 0, .lit (.int .u64 d.2.1), .lit (.int .i64 d.2.2.1), .lit (.int .i64 v), .any, .any, .any, .any, .any, .any, .any, .any, .any, .any, .any, .any, .any, .any, .any, .any, .any, .any, .any, .any, .any, .any, .any, .any, .any, .any, .any, .any, .any, .any, .any, .any, .any, .any, .any, .any, .any, .any, .any, .any, .any, .any, .any, .any, .any, .any, .any, .any, .any, .any, .any, .any, .any, .any, .any], [.box [.lit (.int .i64 d.2.2.2.2.1), .lit (.int .i64 d.2.2.2.2.2.1)], .box [.lit (.int .i64 d.2.2.2.2.2.2.1), .lit (.int .i64 d.2.2.2.2.2.2.2.1)], .box [.lit (.int .i64 d.2.2.2.2.2.2.2.2.1), .lit (.int .i64 d.2.2.2.2.2.2.2.2.2)]]⟩)
noncomputable def dbl_long_M1_t {γ : Type} (s9 : Int) (s10 : Int) (m0_1 : Int) (k : dbl_long_M1_R → Option γ) : Option γ := cond (decide (s9 ≥ (64 : Int))) (k (m0_1)) (k (s10))
noncomputable def dbl_long_M1 (s9 : Int) (s10 : Int) (m0_1 : Int) : Option dbl_long_M1_R := dbl_long_M1_t s9 s10 m0_1 some
theorem dbl_long_M1_t_eq {γ : Type} (s9 : Int) (s10 : Int) (m0_1 : Int) (k : dbl_long_M1_R → Option γ) : dbl_long_M1_t s9 s10 m0_1 k = outOf (dbl_long_M1 s9 s10 m0_1) k := by
  delta dbl_long_M1 dbl_long_M1_t; exact (Tr.nd Tr.lf Tr.lf)
theorem dbl_long_M1_ev (α : Type) (d : dbl_long_M1_D) (k : Exit → St → Option α) : ev Try.prog E1 dbl_long_h0 60 [0, 1, 1, 1, 1, 1, 0, 1] ((codeAt (bodyOf Try.f52) [0, 1, 1, 1, 1, 1, 0, 1]).getD .skip) ⟨mkS dbl_long_M1_A (dbl_long_M1_ofA d), mkH dbl_long_M1_H (dbl_long_M1_ofH d)⟩ (exitN 0 dbl_long_M1_X k) = outOf (dbl_long_M1 d.2.2.1 d.2.2.2.1 d.2.2.2.2.2.1) fun x => k (dbl_long_M1_fin d x).1 (dbl_long_M1_fin d x).2 := by
  obtain ⟨s6, s8, s9, s10, m0_0, m0_1, m1_0, m1_1, m2_0, m2_1⟩ := d
  exact (show _ = dbl_long_M1_t s9 s10 m0_1 (fun x => k (dbl_long_M1_fin (s6, s8, s9, s10, m0_0, m0_1, m1_0, m1_1, m2_0, m2_1) x).1 (dbl_long_M1_fin (s6, s8, s9, s10, m0_0, m0_1, m1_0, m1_1, m2_0, m2_1) x).2) from by kernel_rfl).trans (dbl_long_M1_t_eq s9 s10 m0_1 _)
noncomputable def dbl_long_M1_sp : CSpec := fun _ st k => reNorm 0 dbl_long_M1_N dbl_long_M1_A dbl_long_M1_H st fun a m => outOf (dbl_long_M1 (dbl_long_M1_to a m).2.2.1 (dbl_long_M1_to a m).2.2.2.1 (dbl_long_M1_to a m).2.2.2.2.2.1) fun v => k .normal ⟨[.any, .any, .ptr 0 0 0, .any, .any, .ptr 1 0 0, .lit (.int .u64 (dbl_long_M1_to a m).1), .ptr 2 0 0, .lit (.int .u64 (dbl_long_M1_to a m).2.1), .lit (.int .i64 (dbl_long_M1_to a m).2.2.1), .lit (.int .i64 v), .any, .any, .any, .any, .any, .any, .any, .any, .any, .any, .any, .any, .any, .any, .any, .any, .any, .any, .any, .any, .any, .any, .any, .any, .any, .any, .any, .any, .any, .any, .any, .any, .any, .any, .any, .any, .any, .any, .any, .any, .any, .any, .any, .any, .any, .any, .any, .any, .any, .any, .any, .any, .any, .any, .any], [.box [.lit (.int .i64 (dbl_long_M1_to a m).2.2.2.2.1), .lit (.int .i64 (dbl_long_M1_to a m).2.2.2.2.2.1)], .box [.lit (.int .i64 (dbl_long_M1_to a m).2.2.2.2.2.2.1), .lit (.int .i64 (dbl_long_M1_to a m).2.2.2.2.2.2.2.1)], .box [.lit (.int .i64 (dbl_long_M1_to a m).2.2.2.2.2.2.2.2.1), .lit (.int .i64 (dbl_long_M1_to a m).2.2.2.2.2.2.2.2.2)]]⟩
theorem dbl_long_M1_ok : SumOK Try.prog 0 ((codeAt (bodyOf Try.f52) [0, 1, 1, 1, 1, 1, 0, 1]).getD .skip) dbl_long_M1_sp := (SumOK.once E1_ok mixed dbl_long_h0_ok (show codeAt (bodyOf Try.f52) [0, 1, 1, 1, 1, 1, 0, 1] = some ((codeAt (bodyOf Try.f52) [0, 1, 1, 1, 1, 1, 0, 1]).getD .skip) from by kernel_rfl) (N := dbl_long_M1_N) (Nx := dbl_long_M1_X) (A := dbl_long_M1_A) (Hs := dbl_long_M1_H) (toD := dbl_long_M1_to) (ofA := dbl_long_M1_ofA) (ofH := dbl_long_M1_ofH) (fun _ _ => rfl) (fun _ _ => rfl) (M := fun d => dbl_long_M1 d.2.2.1 d.2.2.2.1 d.2.2.2.2.2.1) (fin := dbl_long_M1_fin) 60 dbl_long_M1_ev).mono fun α st k r h => by
  refine Eq.trans (congrArg (reNorm 0 dbl_long_M1_N dbl_long_M1_A dbl_long_M1_H st) ?_) h
  funext a m
  exact outOf_congr fun x => rfl
noncomputable def dbl_long_M1_h : Hints := dbl_long_h0.add [0, 1, 1, 1, 1, 1, 0, 1] dbl_long_M1_sp
theorem dbl_long_M1_h_ok : dbl_long_M1_h.OK Try.prog (bodyOf Try.f52) := dbl_long_h0_ok.add (show codeAt (bodyOf Try.f52) [0, 1, 1, 1, 1, 1, 0, 1] = some ((codeAt (bodyOf Try.f52) [0, 1, 1, 1, 1, 1, 0, 1]).getD .skip) from by kernel_rfl) dbl_long_M1_ok
def dbl_long_L1_A : List SD := [.any, .any, .loc 0 0 0, .any, .any, .loc 1 0 0, .val (.int .u64), .loc 2 0 0, .val (.int .u64), .val (.int .i64), .any, .any, .any, .any, .any, .any, .any, .any, .any, .any, .any, .any, .any, .any, .any, .any, .any, .any, .any, .any, .any, .any, .any, .any, .any, .any, .any, .any, .any, .any, .any, .any, .any, .any, .any, .any, .any, .any, .any, .any, .any, .any, .any, .any, .any, .any, .any, .any, .any, .any, .any, .any, .any, .any, .any, .any]
def dbl_long_L1_H : List HD := [.box [.val (.int .i64), .val (.int .i64)], .box [.val (.int .i64), .val (.int .i64)], .box [.val (.int .i64), .val (.int .i64)]]
abbrev dbl_long_L1_D : Type := Int × Int × Int × Int × Int × Int × Int × Int × Int
def dbl_long_L1_to (a : DenS dbl_long_L1_A) (m : DenH dbl_long_L1_H) : dbl_long_L1_D := (a.2.2.2.2.2.2.1, a.2.2.2.2.2.2.2.2.1, a.2.2.2.2.2.2.2.2.2.1, m.1.1, m.1.2.1, m.2.1.1, m.2.1.2.1, m.2.2.1.1, m.2.2.1.2.1)
def dbl_long_L1_ofA (d : dbl_long_L1_D) : DenS dbl_long_L1_A := match d with | (s6, s8, s9, m0_0, m0_1, m1_0, m1_1, m2_0, m2_1) => ((), (), (), (), (), (), s6, (), s8, s9, (), (), (), (), (), (), (), (), (), (), (), (), (), (), (), (), (), (), (), (), (), (), (), (), (), (), (), (), (), (), (), (), (), (), (), (), (), (), (), (), (), (), (), (), (), (), (), (), (), (), (), (), (), (), (), (), ())
def dbl_long_L1_ofH (d : dbl_long_L1_D) : DenH dbl_long_L1_H := match d with | (s6, s8, s9, m0_0, m0_1, m1_0, m1_1, m2_0, m2_1) => ((m0_0, m0_1, ()), (m1_0, m1_1, ()), (m2_0, m2_1, ()), ())
def dbl_long_L1_N : Norm := (⟨[2, 5, 6, 7, 8, 9], [], []⟩ : Norm)
def dbl_long_L1_X : Exit → Norm := fun e => match e with | .normal => ⟨[4, 5], [], []⟩ | .ret => ⟨[4, 5], [], []⟩ | _ => ⟨[], [], []⟩
def dbl_long_M2_A : List SD := [.any, .any, .loc 0 0 0, .any, .any, .loc 1 0 0, .val (.int .u64), .loc 2 0 0, .val (.int .u64), .val (.int .i64), .val (.int .i64), .any, .any, .any, .any, .any, .any, .any, .any, .any, .any, .any, .any, .any, .any, .any, .any, .any, .any, .any, .any, .any, .any, .any, .any, .any, .any, .any, .any, .any, .any, .any, .any, .any, .any, .any, .any, .any, .any, .any, .any, .any, .any, .any, .any, .any, .any, .any, .any, .any, .any, .any, .any, .any, .any, .any]
def dbl_long_M2_H : List HD := [.box [.val (.int .i64), .val (.int .i64)], .box [.val (.int .i64), .val (.int .i64)], .box [.val (.int .i64), .val (.int .i64)]]
abbrev dbl_long_M2_D : Type := Int × Int × Int × Int × Int × Int × Int × Int × Int × Int
def dbl_long_M2_to (a : DenS dbl_long_M2_A) (m : DenH dbl_long_M2_H) : dbl_long_M2_D := (a.2.2.2.2.2.2.1, a.2.2.2.2.2.2.2.2.1, a.2.2.2.2.2.2.2.2.2.1, a.2.2.2.2.2.2.2.2.2.2.1, m.1.1, m.1.2.1, m.2.1.1, m.2.1.2.1, m.2.2.1.1, m.2.2.1.2.1)
def dbl_long_M2_ofA (d : dbl_long_M2_D) : DenS dbl_long_M2_A := match d with | (s6, s8, s9, s10, m0_0, m0_1, m1_0, m1_1, m2_0, m2_1) => ((), (), (), (), (), (), s6, (), s8, s9, s10, (), (), (), (), (), (), (), (), (), (), (), (), (), (), (), (), (), (), (), (), (), (), (), (), (), (), (), (), (), (), (), (), (), (), (), (), (), (), (), (), (), (), (), (), (), (), (), (), (), (), (), (), (), (), (), ())
def dbl_long_M2_ofH (d : dbl_long_M2_D) : DenH dbl_long_M2_H := match d with | (s6, s8, s9, s10, m0_0, m0_1, m1_0, m1_1, m2_0, m2_1) => ((m0_0, m0_1, ()), (m1_0, m1_1, ()), (m2_0, m2_1, ()), ())
def dbl_long_M2_N : Norm := (⟨[2, 5, 6, 7, 8, 9, 10], [], []⟩ : Norm)
def dbl_long_M2_X : Exit → Norm := fun e => match e with | .normal => ⟨[2, 5, 6, 7, 8, 9, 10], [], []⟩ | _ => ⟨[], [], []⟩
abbrev dbl_long_M2_R : Type := (Int)
def dbl_long_M2_fin (d : dbl_long_M2_D) (v : dbl_long_M2_R) : Exit × St := (.normal, ⟨[.any, .any, .ptr 0 0 0, .any, .any, .ptr 1 0 0, .lit (.int .u64 d.1), .ptr 2 0 0, .lit (.int .u64 d.2.1), .lit (.int .i64 d.2.2.1), .lit (.int .i64 v), .any, .any, .any, .any, .any, .any, .any, .any, .any, .any, .any, .any, .any, .any, .any, .any, .any, .any, .any, .any, .any, .any, .any, .any, .any, .any, .any, .any, .any, .any, .any, .any, .any, .any, .any, .any, .any, .any, .any, .any, .any, .any, .any, .any, .any, .any, .any, .any, .any, .any, .any, .any, .any, .any, .any], [.box [.lit (.int .i64 d.2.2.2.2.1), .lit (.int .i64 d.2.2.2.2.2.1)], .box [.lit (.int .i64 d.2.2.2.2.2.2.1), .lit (.int .i64 d.2.2.2.2.2.2.2.1)], .box [.lit (.int .i64 d.2.2.2.2.2.2.2.2.1), .lit (.int .i64 d.2.2.2.2.2.2.2.2.2)]]⟩)
noncomputable def dbl_long_M2_t {γ : Type} (s9 : Int) (s10 : Int) (m0_1 : Int) (k : dbl_long_M2_R → Option γ) : Option γ := cond (decide (s9 ≥ (64 : Int))) (k (m0_1)) (k (s10))
noncomputable def dbl_long_M2 (s9 : Int) (s10 : Int) (m0_1 : Int) : Option dbl_long_M2_R := dbl_long_M2_t s9 s10 m0_1 some
theorem dbl_long_M2_t_eq {γ : Type} (s9 : Int) (s10 : Int) (m0_1 : Int) (k : dbl_long_M2_R → Option γ) : dbl_long_M2_t s9 s10 m0_1 k = outOf (dbl_long_M2 s9 s10 m0_1) k := by
  delta dbl_long_M2 dbl_long_M2_t; exact (Tr.nd Tr.lf Tr.lf)
theorem dbl_long_M2_ev (α : Type) (d : dbl_long_M2_D) (k : Exit → St → Option α) : ev Try.prog E1 dbl_long_M1_h 60 [0, 1, 1, 1, 1] ((codeAt (bodyOf Try.f52) [0, 1, 1, 1, 1]).getD .skip) ⟨mkS dbl_long_M2_A (dbl_long_M2_ofA d), mkH dbl_long_M2_H (dbl_long_M2_ofH d)⟩ (exitN 0 dbl_long_M2_X k) = outOf (dbl_long_M2 d.2.2.1 d.2.2.2.1 d.2.2.2.2.2.1) fun x => k (dbl_long_M2_fin d x).1 (dbl_long_M2_fin d x).2 := by
  obtain ⟨s6, s8, s9, s10, m0_0, m0_1, m1_0, m1_1, m2_0, m2_1⟩ := d
  exact (show _ = dbl_long_M2_t s9 s10 m0_1 (fun x => k (dbl_long_M2_fin (s6, s8, s9, s10, m0_0, m0_1, m1_0, m1_1, m2_0, m2_1) x).1 (dbl_long_M2_fin (s6, s8, s9, s10, m0_0, m0_1, m1_0, m1_1, m2_0, m2_1) x).2) from by kernel_rfl).trans (dbl_long_M2_t_eq s9 s10 m0_1 _)
noncomputable def dbl_long_M2_sp : CSpec := fun _ st k => reNorm 0 dbl_long_M2_N dbl_long_M2_A dbl_long_M2_H st fun a m => outOf (dbl_long_M2 (dbl_long_M2_to a m).2.2.1 (dbl_long_M2_to a m).2.2.2.1 (dbl_long_M2_to a m).2.2.2.2.2.1) fun v => k .normal ⟨[.any, .any, .ptr 0 0 0, .any, .any, .ptr 1 0 0, .lit (.int .u64 (dbl_long_M2_to a m).1), .ptr 2 0 0, .lit (.int .u64 (dbl_long_M2_to a m).2.1), .lit (.int .i64 (dbl_long_M2_to a m).2.2.1), .lit (.int .i64 v), .any, .any, .any, .any, .any, .any, .any, .any, .any, .any, .any, .any, .any, .any, .any, .any, .any, .any, .any, .any, .any, .any, .any, .any, .any, .any, .any, .any, .any, .any, .any, .any, .any, .any, .any, .any, .any, .any, .any, .any, .any, .any, .any, .any, .any, .any, .any, .any, .any, .any, .any, .any, .any, .any, .any], [.box [.lit (.int .i64 (dbl_long_M2_to a m).2.2.2.2.1), .lit (.int .i64 (dbl_long_M2_to a m).2.2.2.2.2.1)], .box [.lit (.int .i64 (dbl_long_M2_to a m).2.2.2.2.2.2.1), .lit (.int .i64 (dbl_long_M2_to a m).2.2.2.2.2.2.2.1)], .box [.lit (.int .i64 (dbl_long_M2_to a m).2.2.2.2.2.2.2.2.1), .lit (.int .i64 (dbl_long_M2_to a m).2.2.2.2.2.2.2.2.2)]]⟩
theorem dbl_long_M2_ok : SumOK Try.prog 0 ((codeAt (bodyOf Try.f52) [0, 1, 1, 1, 1]).getD .skip) dbl_long_M2_sp := (SumOK.once E1_ok mixed dbl_long_M1_h_ok (show codeAt (bodyOf Try.f52) [0, 1, 1, 1, 1] = some ((codeAt (bodyOf Try.f52) [0, 1, 1, 1, 1]).getD .skip) from by kernel_rfl) (N := dbl_long_M2_N) (Nx := dbl_long_M2_X) (A := dbl_long_M2_A) (Hs := dbl_long_M2_H) (toD := dbl_long_M2_to) (ofA := dbl_long_M2_ofA) (ofH := dbl_long_M2_ofH) (fun _ _ => rfl) (fun _ _ => rfl) (M := fun d => dbl_long_M2 d.2.2.1 d.2.2.2.1 d.2.2.2.2.2.1) (fin := dbl_long_M2_fin) 60 dbl_long_M2_ev).mono fun α st k r h => by
  refine Eq.trans (congrArg (reNorm 0 dbl_long_M2_N dbl_long_M2_A dbl_long_M2_H st) ?_) h
  funext a m
  exact outOf_congr fun x => rfl
noncomputable def dbl_long_M2_h : Hints := dbl_long_M1_h.add [0, 1, 1, 1, 1] dbl_long_M2_sp
theorem dbl_long_M2_h_ok : dbl_long_M2_h.OK Try.prog (bodyOf Try.f52) := dbl_long_M1_h_ok.add (show codeAt (bodyOf Try.f52) [0, 1, 1, 1, 1] = some ((codeAt (bodyOf Try.f52) [0, 1, 1, 1, 1]).getD .skip) from by kernel_rfl) dbl_long_M2_ok
abbrev dbl_long_L1_R : Type := (Int × Int × Int)
def dbl_long_L1_fin (v : dbl_long_L1_R) : Exit × St := (.ret, ⟨[.any, .any, .any, .any, .lit (.int .i64 v.1), .ptr 0 0 0, .any, .any, .any, .any, .any, .any, .any, .any, .any, .any, .any, .any, .any, .any, .any, .any, .any, .any, .any, .any, .any, .any, .any, .any, .any, .any, .any, .any, .any, .any, .any, .any, .any, .any, .any, .any, .any, .any, .any, .any, .any, .any, .any, .any, .any, .any, .any, .any, .any, .any, .any, .any, .any, .any, .any, .any, .any, .any, .any, .any], [.box [.lit (.int .i64 v.2.1), .lit (.int .i64 v.2.2)]]⟩)
noncomputable def dbl_long_L1_t {γ : Type} (s6 : Int) (s8 : Int) (s9 : Int) (m0_0 : Int) (m0_1 : Int) (m1_0 : Int) (m1_1 : Int) (m2_0 : Int) (m2_1 : Int) (next : dbl_long_L1_D → Option γ) (out : dbl_long_L1_R → Option γ) : Option γ := outOf (dbl_long_M2 s9 m0_0 m0_1) fun (x1 : Int) => cond (decide (IntKind.wrap IntKind.u64 (Int.tmod s9 (64 : Int)) < (0 : Int))) (none) (cond (Int.fdiv s6 (9223372036854775808 : Int) == (1 : Int)) (cond (decide (IntKind.wrap IntKind.i64 (s9 - (1 : Int)) ≥ (0 : Int))) (next (IntKind.wrap IntKind.u64 (ibits BinOp.or IntKind.u64 (IntKind.wrap IntKind.u64 (s6 * (2 : Int))) (ibits BinOp.and IntKind.u64 (Int.fdiv (IntKind.wrap IntKind.u64 x1) ((2 : Int) ^ min (Int.toNat (IntKind.wrap IntKind.u64 (Int.tmod s9 (64 : Int)))) (64 : Nat))) (1 : Int)) - s8), s8, IntKind.wrap IntKind.i64 (s9 - (1 : Int)), m0_0, m0_1, m1_0, m1_1, ibits BinOp.or IntKind.i64 (IntKind.wrap IntKind.i64 (m2_0 * (2 : Int))) (1 : Int), ibits BinOp.or IntKind.i64 (IntKind.wrap IntKind.i64 (m2_1 * (2 : Int))) (IntKind.wrap IntKind.i64 (Int.fdiv (IntKind.wrap IntKind.u64 m2_0) (9223372036854775808 : Int))))) (out (IntKind.wrap IntKind.i64 (IntKind.wrap IntKind.u64 (ibits BinOp.or IntKind.u64 (IntKind.wrap IntKind.u64 (s6 * (2 : Int))) (ibits BinOp.and IntKind.u64 (Int.fdiv (IntKind.wrap IntKind.u64 x1) ((2 : Int) ^ min (Int.toNat (IntKind.wrap IntKind.u64 (Int.tmod s9 (64 : Int)))) (64 : Nat))) (1 : Int)) - s8)), ibits BinOp.or IntKind.i64 (IntKind.wrap IntKind.i64 (m2_0 * (2 : Int))) (1 : Int), ibits BinOp.or IntKind.i64 (IntKind.wrap IntKind.i64 (m2_1 * (2 : Int))) (IntKind.wrap IntKind.i64 (Int.fdiv (IntKind.wrap IntKind.u64 m2_0) (9223372036854775808 : Int)))))) (cond (decide (ibits BinOp.or IntKind.u64 (IntKind.wrap IntKind.u64 (s6 * (2 : Int))) (ibits BinOp.and IntKind.u64 (Int.fdiv (IntKind.wrap IntKind.u64 x1) ((2 : Int) ^ min (Int.toNat (IntKind.wrap IntKind.u64 (Int.tmod s9 (64 : Int)))) (64 : Nat))) (1 : Int)) ≥ s8)) (cond (decide (IntKind.wrap IntKind.i64 (s9 - (1 : Int)) ≥ (0 : Int))) (next (IntKind.wrap IntKind.u64 (ibits BinOp.or IntKind.u64 (IntKind.wrap IntKind.u64 (s6 * (2 : Int))) (ibits BinOp.and IntKind.u64 (Int.fdiv (IntKind.wrap IntKind.u64 x1) ((2 : Int) ^ min (Int.toNat (IntKind.wrap IntKind.u64 (Int.tmod s9 (64 : Int)))) (64 : Nat))) (1 : Int)) - s8), s8, IntKind.wrap IntKind.i64 (s9 - (1 : Int)), m0_0, m0_1, m1_0, m1_1, ibits BinOp.or IntKind.i64 (IntKind.wrap IntKind.i64 (m2_0 * (2 : Int))) (1 : Int), ibits BinOp.or IntKind.i64 (IntKind.wrap IntKind.i64 (m2_1 * (2 : Int))) (IntKind.wrap IntKind.i64 (Int.fdiv (IntKind.wrap IntKind.u64 m2_0) (9223372036854775808 : Int))))) (out (IntKind.wrap IntKind.i64 (IntKind.wrap IntKind.u64 (ibits BinOp.or IntKind.u64 (IntKind.wrap IntKind.u64 (s6 * (2 : Int))) (ibits BinOp.and IntKind.u64 (Int.fdiv (IntKind.wrap IntKind.u64 x1) ((2 : Int) ^ min (Int.toNat (IntKind.wrap IntKind.u64 (Int.tmod s9 (64 : Int)))) (64 : Nat))) (1 : Int)) - s8)), ibits BinOp.or IntKind.i64 (IntKind.wrap IntKind.i64 (m2_0 * (2 : Int))) (1 : Int), ibits BinOp.or IntKind.i64 (IntKind.wrap IntKind.i64 (m2_1 * (2 : Int))) (IntKind.wrap IntKind.i64 (Int.fdiv (IntKind.wrap IntKind.u64 m2_0) (9223372036854775808 : Int)))))) (cond (decide (IntKind.wrap IntKind.i64 (s9 - (1 : Int)) ≥ (0 : Int))) (next (ibits BinOp.or IntKind.u64 (IntKind.wrap IntKind.u64 (s6 * (2 : Int))) (ibits BinOp.and IntKind.u64 (Int.fdiv (IntKind.wrap IntKind.u64 x1) ((2 : Int) ^ min (Int.toNat (IntKind.wrap IntKind.u64 (Int.tmod s9 (64 : Int)))) (64 : Nat))) (1 : Int)), s8, IntKind.wrap IntKind.i64 (s9 - (1 : Int)), m0_0, m0_1, m1_0, m1_1, IntKind.wrap IntKind.i64 (m2_0 * (2 : Int)), ibits BinOp.or IntKind.i64 (IntKind.wrap IntKind.i64 (m2_1 * (2 : Int))) (IntKind.wrap IntKind.i64 (Int.fdiv (IntKind.wrap IntKind.u64 m2_0) (9223372036854775808 : Int))))) (out (IntKind.wrap IntKind.i64 (ibits BinOp.or IntKind.u64 (IntKind.wrap IntKind.u64 (s6 * (2 : Int))) (ibits BinOp.and IntKind.u64 (Int.fdiv (IntKind.wrap IntKind.u64 x1) ((2 : Int) ^ min (Int.toNat (IntKind.wrap IntKind.u64 (Int.tmod s9 (64 : Int)))) (64 : Nat))) (1 : Int))), IntKind.wrap IntKind.i64 (m2_0 * (2 : Int)), ibits BinOp.or IntKind.i64 (IntKind.wrap IntKind.i64 (m2_1 * (2 : Int))) (IntKind.wrap IntKind.i64 (Int.fdiv (IntKind.wrap IntKind.u64 m2_0) (9223372036854775808 : Int))))))))
noncomputable def dbl_long_L1_pass (d : dbl_long_L1_D) : Option (dbl_long_L1_D ⊕ dbl_long_L1_R) := dbl_long_L1_t d.1 d.2.1 d.2.2.1 d.2.2.2.1 d.2.2.2.2.1 d.2.2.2.2.2.1 d.2.2.2.2.2.2.1 d.2.2.2.2.2.2.2.1 d.2.2.2.2.2.2.2.2 (fun d => some (.inl d)) (fun x => some (.inr x))
theorem dbl_long_L1_t_eq {γ : Type} (s6 : Int) (s8 : Int) (s9 : Int) (m0_0 : Int) (m0_1 : Int) (m1_0 : Int) (m1_1 : Int) (m2_0 : Int) (m2_1 : Int) (next : dbl_long_L1_D → Option γ) (out : dbl_long_L1_R → Option γ) : dbl_long_L1_t s6 s8 s9 m0_0 m0_1 m1_0 m1_1 m2_0 m2_1 next out = PassOf (dbl_long_L1_t s6 s8 s9 m0_0 m0_1 m1_0 m1_1 m2_0 m2_1 (fun d => some (.inl d)) (fun x => some (.inr x))) next out := by
  delta dbl_long_L1_t; exact (Ps.bd fun x1 => (Ps.nd Ps.no (Ps.nd (Ps.nd Ps.nx Ps.ou) (Ps.nd (Ps.nd Ps.nx Ps.ou) (Ps.nd Ps.nx Ps.ou)))))
theorem dbl_long_L1_ev (α : Type) (d : dbl_long_L1_D) (next : dbl_long_L1_D → Option α) (k : Exit → St → Option α) : ev Try.prog E1 dbl_long_M2_h 60 [1, 1] ((codeAt (bodyOf Try.f52) [1, 1]).getD .skip) ⟨mkS dbl_long_L1_A (dbl_long_L1_ofA d), mkH dbl_long_L1_H (dbl_long_L1_ofH d)⟩ (passJ 0 0 dbl_long_L1_N dbl_long_L1_A dbl_long_L1_H dbl_long_L1_X (fun a m => next (dbl_long_L1_to a m)) k) = PassOf (dbl_long_L1_pass d) next fun x => k (dbl_long_L1_fin x).1 (dbl_long_L1_fin x).2 := by
  obtain ⟨s6, s8, s9, m0_0, m0_1, m1_0, m1_1, m2_0, m2_1⟩ := d
  exact (show _ = dbl_long_L1_t s6 s8 s9 m0_0 m0_1 m1_0 m1_1 m2_0 m2_1 next (fun x => k (dbl_long_L1_fin x).1 (dbl_long_L1_fin x).2) from by kernel_rfl).trans (dbl_long_L1_t_eq s6 s8 s9 m0_0 m0_1 m1_0 m1_1 m2_0 m2_1 _ _)
noncomputable def dbl_long_L1 (d : dbl_long_L1_D) : Option dbl_long_L1_R := runs dbl_long_L1_pass d
noncomputable def dbl_long_L1_sp : CSpec := fun _ st k => reNorm 0 dbl_long_L1_N dbl_long_L1_A dbl_long_L1_H st fun a m => outOf (dbl_long_L1 (dbl_long_L1_to a m)) fun v => k .ret ⟨[.any, .any, .any, .any, .lit (.int .i64 v.1), .ptr 0 0 0, .any, .any, .any, .any, .any, .any, .any, .any, .any, .any, .any, .any, .any, .any, .any, .any, .any, .any, .any, .any, .any, .any, .any, .any, .any, .any, .any, .any, .any, .any, .any, .any, .any, .any, .any, .any, .any, .any, .any, .any, .any, .any, .any, .any, .any, .any, .any, .any, .any, .any, .any, .any, .any, .any, .any, .any, .any, .any, .any, .any], [.box [.lit (.int .i64 v.2.1), .lit (.int .i64 v.2.2)]]⟩
theorem dbl_long_L1_ok : JumpOK Try.prog 0 ((codeAt (bodyOf Try.f52) [0, 1]).getD .skip) ((codeAt (bodyOf Try.f52) [1, 1]).getD .skip) dbl_long_L1_sp := (JumpOK.loop E1_ok mixed dbl_long_M2_h_ok (b := ((codeAt (bodyOf Try.f52) [0, 1]).getD .skip)) (p := [1]) (l := 0) (show codeAt (bodyOf Try.f52) [1, 1] = some ((codeAt (bodyOf Try.f52) [1, 1]).getD .skip) from by kernel_rfl) (show findLabel ((codeAt (bodyOf Try.f52) [0, 1]).getD .skip) 0 = some ((codeAt (bodyOf Try.f52) [1, 1]).getD .skip) from by kernel_rfl) (N := dbl_long_L1_N) (Nx := dbl_long_L1_X) (A := dbl_long_L1_A) (Hs := dbl_long_L1_H) (toD := dbl_long_L1_to) (ofA := dbl_long_L1_ofA) (ofH := dbl_long_L1_ofH) (fun _ _ => rfl) (fun _ _ => rfl) (pass := dbl_long_L1_pass) (fin := dbl_long_L1_fin) 60 dbl_long_L1_ev (steps dbl_long_L1_pass)).mono fun α st k r h => by
  refine Eq.trans (congrArg (reNorm 0 dbl_long_L1_N dbl_long_L1_A dbl_long_L1_H st) ?_) h
  funext a m
  exact outOf_congr fun x => rfl
noncomputable def dbl_long_L1_h : Hints := dbl_long_M2_h.addJ [1, 1] dbl_long_L1_sp
theorem dbl_long_L1_h_ok : dbl_long_L1_h.OK Try.prog (bodyOf Try.f52) := dbl_long_M2_h_ok.addJ (q := 1) (p := [1]) (b := ((codeAt (bodyOf Try.f52) [0, 1]).getD .skip)) (show codeAt (bodyOf Try.f52) [1] = some (.scope ((codeAt (bodyOf Try.f52) [0, 1]).getD .skip)) from by kernel_rfl) (show codeAt (bodyOf Try.f52) [1, 1] = some ((codeAt (bodyOf Try.f52) [1, 1]).getD .skip) from by kernel_rfl) dbl_long_L1_ok
abbrev dbl_long_R : Type := (Int × Int × Int)
noncomputable def dbl_long_t {γ : Type} (a0_0 : Int) (a0_1 : Int) (a1 : Int) (k : dbl_long_R → Option γ) : Option γ := cond (decide (ibits BinOp.or IntKind.u64 (IntKind.wrap IntKind.u64 ((0 : Int) * (2 : Int))) (ibits BinOp.and IntKind.u64 (Int.fdiv (IntKind.wrap IntKind.u64 a0_1) ((2 : Int) ^ min (Int.toNat (IntKind.wrap IntKind.u64 (Int.tmod (127 : Int) (64 : Int)))) (64 : Nat))) (1 : Int)) ≥ IntKind.wrap IntKind.u64 a1)) (outOf (dbl_long_L1 (IntKind.wrap IntKind.u64 (ibits BinOp.or IntKind.u64 (0 : Int) (ibits BinOp.and IntKind.u64 (Int.fdiv (IntKind.wrap IntKind.u64 a0_1) (9223372036854775808 : Int)) (1 : Int)) - IntKind.wrap IntKind.u64 a1), IntKind.wrap IntKind.u64 a1, (126 : Int), a0_0, a0_1, (0 : Int), (0 : Int), (1 : Int), (0 : Int))) fun (x2 : (Int × (Int × Int))) => k (Prod.fst x2, Prod.fst (Prod.snd x2), Prod.snd (Prod.snd x2))) (outOf (dbl_long_L1 (ibits BinOp.or IntKind.u64 (0 : Int) (ibits BinOp.and IntKind.u64 (Int.fdiv (IntKind.wrap IntKind.u64 a0_1) (9223372036854775808 : Int)) (1 : Int)), IntKind.wrap IntKind.u64 a1, (126 : Int), a0_0, a0_1, (0 : Int), (0 : Int), (0 : Int), (0 : Int))) fun (x3 : (Int × (Int × Int))) => k (Prod.fst x3, Prod.fst (Prod.snd x3), Prod.snd (Prod.snd x3)))
noncomputable def dbl_long (a0_0 : Int) (a0_1 : Int) (a1 : Int) : Option dbl_long_R := dbl_long_t a0_0 a0_1 a1 some
theorem dbl_long_t_eq {γ : Type} (a0_0 : Int) (a0_1 : Int) (a1 : Int) (k : dbl_long_R → Option γ) : dbl_long_t a0_0 a0_1 a1 k = outOf (dbl_long a0_0 a0_1 a1) k := by
  delta dbl_long dbl_long_t; exact (Tr.nd (Tr.bd fun x2 => Tr.lf) (Tr.bd fun x3 => Tr.lf))
noncomputable def dbl_long_sp : TX.Spec := specD [.agg (.pair (.int .i64) (.int .i64)), .val (.int .i64)] [] fun _ a m k => match a, m with | ⟨⟨a0_0, a0_1⟩, a1, _⟩, _ => outOf (dbl_long a0_0 a0_1 a1) fun v => k (.tup [.lit (.int .i64 v.1), .agg [.lit (.int .i64 v.2.1), .lit (.int .i64 v.2.2)]]) []
theorem dbl_long_ev {α : Type} (a0_0 : Int) (a0_1 : Int) (a1 : Int) (k : Kont α) : evFun Try.prog E1 (dbl_long_L1_h) false Try.f52 (bodyOf Try.f52) 60 (mkS [.agg (.pair (.int .i64) (.int .i64)), .val (.int .i64)] ((a0_0, a0_1), a1, ())) (mkH [] ()) k = outOf (dbl_long a0_0 a0_1 a1) fun v => k (.tup [.lit (.int .i64 v.1), .agg [.lit (.int .i64 v.2.1), .lit (.int .i64 v.2.2)]]) [] :=
  (show _ = dbl_long_t a0_0 a0_1 a1 (fun v => k (.tup [.lit (.int .i64 v.1), .agg [.lit (.int .i64 v.2.1), .lit (.int .i64 v.2.2)]]) []) from by kernel_rfl).trans (dbl_long_t_eq a0_0 a0_1 a1 _)
theorem dbl_long_good : TX.Good Try.prog 52 dbl_long_sp := good_form E1_ok mixed Try.func52 (body_of rfl) (by kernel_rfl) false fun α a m k r h => by
  obtain ⟨⟨a0_0, a0_1⟩, a1, _⟩ := a; obtain _ := m
  exact ⟨dbl_long_L1_h, 60, dbl_long_L1_h_ok, rfl, (dbl_long_ev a0_0 a0_1 a1 k).trans h⟩
noncomputable def E2 : Env := ((E1.add 18 true dbl_Of_sp).add 16 true dbl_Add_sp).add 61 true cmpNanI_sp |>.add 62 true cmpNanU_sp |>.add 53 true mul64_sp |>.add 36 true cell_Ult_sp |>.add 47 true cmpOr_sp |>.add 52 true dbl_long_sp
theorem E2_ok : E2.OK Try.prog := (((((((E1_ok.add_ok dbl_Of_good).add_ok dbl_Add_good).add_ok cmpNanI_good).add_ok cmpNanU_good).add_ok mul64_good).add_ok cell_Ult_good).add_ok cmpOr_good).add_ok dbl_long_good
/-! f17 tenterhook/dbl.Neg -/
def dbl_Neg_h0 : Hints := Hints.nil 0
theorem dbl_Neg_h0_ok : dbl_Neg_h0.OK Try.prog (bodyOf Try.f17) := Hints.nil_ok
abbrev dbl_Neg_R : Type := (Int × Int)
noncomputable def dbl_Neg_t {γ : Type} (a0_0 : Int) (a0_1 : Int) (k : dbl_Neg_R → Option γ) : Option γ := outOf (dbl_Add (ibits BinOp.xor IntKind.i64 (-1 : Int) a0_0) (ibits BinOp.xor IntKind.i64 (-1 : Int) a0_1) (1 : Int) (0 : Int)) fun (x1 : (Int × Int)) => k (Prod.fst x1, Prod.snd x1)
noncomputable def dbl_Neg (a0_0 : Int) (a0_1 : Int) : Option dbl_Neg_R := dbl_Neg_t a0_0 a0_1 some
theorem dbl_Neg_t_eq {γ : Type} (a0_0 : Int) (a0_1 : Int) (k : dbl_Neg_R → Option γ) : dbl_Neg_t a0_0 a0_1 k = outOf (dbl_Neg a0_0 a0_1) k := by
  delta dbl_Neg dbl_Neg_t; exact (Tr.bd fun x1 => Tr.lf)
noncomputable def dbl_Neg_sp : TX.Spec := specD [.agg (.pair (.int .i64) (.int .i64))] [] fun _ a m k => match a, m with | ⟨⟨a0_0, a0_1⟩, _⟩, _ => outOf (dbl_Neg a0_0 a0_1) fun v => k (.agg [.lit (.int .i64 v.1), .lit (.int .i64 v.2)]) []
theorem dbl_Neg_ev {α : Type} (a0_0 : Int) (a0_1 : Int) (k : Kont α) : evFun Try.prog E2 (dbl_Neg_h0) false Try.f17 (bodyOf Try.f17) 60 (mkS [.agg (.pair (.int .i64) (.int .i64))] ((a0_0, a0_1), ())) (mkH [] ()) k = outOf (dbl_Neg a0_0 a0_1) fun v => k (.agg [.lit (.int .i64 v.1), .lit (.int .i64 v.2)]) [] :=
  (show _ = dbl_Neg_t a0_0 a0_1 (fun v => k (.agg [.lit (.int .i64 v.1), .lit (.int .i64 v.2)]) []) from by kernel_rfl).trans (dbl_Neg_t_eq a0_0 a0_1 _)
theorem dbl_Neg_good : TX.Good Try.prog 17 dbl_Neg_sp := good_form E2_ok mixed Try.func17 (body_of rfl) (by kernel_rfl) false fun α a m k r h => by
  obtain ⟨⟨a0_0, a0_1⟩, _⟩ := a; obtain _ := m
  exact ⟨dbl_Neg_h0, 60, dbl_Neg_h0_ok, rfl, (dbl_Neg_ev a0_0 a0_1 k).trans h⟩
/-! f48 cmp.Compare[int] -/
def cmpI_h0 : Hints := Hints.nil 0
theorem cmpI_h0_ok : cmpI_h0.OK Try.prog (bodyOf Try.f48) := Hints.nil_ok
abbrev cmpI_R : Type := (Int)
noncomputable def cmpI_t {γ : Type} (a0 : Int) (a1 : Int) (k : cmpI_R → Option γ) : Option γ := cond (cmpNanI a0) (cond (cmpNanI a1) (k ((0 : Int))) (k ((-1 : Int)))) (cond (cmpNanI a1) (k ((1 : Int))) (cond (decide (a0 < a1)) (k ((-1 : Int))) (cond (decide (a0 > a1)) (k ((1 : Int))) (k ((0 : Int))))))
noncomputable def cmpI (a0 : Int) (a1 : Int) : Option cmpI_R := cmpI_t a0 a1 some
theorem cmpI_t_eq {γ : Type} (a0 : Int) (a1 : Int) (k : cmpI_R → Option γ) : cmpI_t a0 a1 k = outOf (cmpI a0 a1) k := by
  delta cmpI cmpI_t; exact (Tr.nd (Tr.nd Tr.lf Tr.lf) (Tr.nd Tr.lf (Tr.nd Tr.lf (Tr.nd Tr.lf Tr.lf))))
noncomputable def cmpI_sp : TX.Spec := specD [.val (.int .i64), .val (.int .i64)] [] fun _ a m k => match a, m with | ⟨a0, a1, _⟩, _ => outOf (cmpI a0 a1) fun v => k (.lit (.int .i64 v)) []
theorem cmpI_ev {α : Type} (a0 : Int) (a1 : Int) (k : Kont α) : evFun Try.prog E2 (cmpI_h0) false Try.f48 (bodyOf Try.f48) 60 (mkS [.val (.int .i64), .val (.int .i64)] (a0, a1, ())) (mkH [] ()) k = outOf (cmpI a0 a1) fun v => k (.lit (.int .i64 v)) [] :=
  (show _ = cmpI_t a0 a1 (fun v => k (.lit (.int .i64 v)) []) from by kernel_rfl).trans (cmpI_t_eq a0 a1 _)
theorem cmpI_good : TX.Good Try.prog 48 cmpI_sp := good_form E2_ok mixed Try.func48 (body_of rfl) (by kernel_rfl) false fun α a m k r h => by
  obtain ⟨a0, a1, _⟩ := a; obtain _ := m
  exact ⟨cmpI_h0, 60, cmpI_h0_ok, rfl, (cmpI_ev a0 a1 k).trans h⟩
/-! f49 cmp.Compare[uint64] -/
def cmpU_h0 : Hints := Hints.nil 0
theorem cmpU_h0_ok : cmpU_h0.OK Try.prog (bodyOf Try.f49) := Hints.nil_ok
abbrev cmpU_R : Type := (Int)
noncomputable def cmpU_t {γ : Type} (a0 : Int) (a1 : Int) (k : cmpU_R → Option γ) : Option γ := cond (cmpNanU a0) (cond (cmpNanU a1) (k ((0 : Int))) (k ((-1 : Int)))) (cond (cmpNanU a1) (k ((1 : Int))) (cond (decide (a0 < a1)) (k ((-1 : Int))) (cond (decide (a0 > a1)) (k ((1 : Int))) (k ((0 : Int))))))
noncomputable def cmpU (a0 : Int) (a1 : Int) : Option cmpU_R := cmpU_t a0 a1 some
theorem cmpU_t_eq {γ : Type} (a0 : Int) (a1 : Int) (k : cmpU_R → Option γ) : cmpU_t a0 a1 k = outOf (cmpU a0 a1) k := by
  delta cmpU cmpU_t; exact (Tr.nd (Tr.nd Tr.lf Tr.lf) (Tr.nd Tr.lf (Tr.nd Tr.lf (Tr.nd Tr.lf Tr.lf))))
noncomputable def cmpU_sp : TX.Spec := specD [.val (.int .u64), .val (.int .u64)] [] fun _ a m k => match a, m with | ⟨a0, a1, _⟩, _ => outOf (cmpU a0 a1) fun v => k (.lit (.int .i64 v)) []
theorem cmpU_ev {α : Type} (a0 : Int) (a1 : Int) (k : Kont α) : evFun Try.prog E2 (cmpU_h0) false Try.f49 (bodyOf Try.f49) 60 (mkS [.val (.int .u64), .val (.int .u64)] (a0, a1, ())) (mkH [] ()) k = outOf (cmpU a0 a1) fun v => k (.lit (.int .i64 v)) [] :=
  (show _ = cmpU_t a0 a1 (fun v => k (.lit (.int .i64 v)) []) from by kernel_rfl).trans (cmpU_t_eq a0 a1 _)
theorem cmpU_good : TX.Good Try.prog 49 cmpU_sp := good_form E2_ok mixed Try.func49 (body_of rfl) (by kernel_rfl) false fun α a m k r h => by
  obtain ⟨a0, a1, _⟩ := a; obtain _ := m
  exact ⟨cmpU_h0, 60, cmpU_h0_ok, rfl, (cmpU_ev a0 a1 k).trans h⟩
/-! f27 tenterhook/dbl.UMul -/
def dbl_UMul_h0 : Hints := Hints.nil 0
theorem dbl_UMul_h0_ok : dbl_UMul_h0.OK Try.prog (bodyOf Try.f27) := Hints.nil_ok
noncomputable def dbl_UMul (a0 : Int) (a1 : Int) : Int × Int := (IntKind.wrap IntKind.i64 (Prod.snd (mul64 (IntKind.wrap IntKind.u64 a0) (IntKind.wrap IntKind.u64 a1))), IntKind.wrap IntKind.i64 (Prod.fst (mul64 (IntKind.wrap IntKind.u64 a0) (IntKind.wrap IntKind.u64 a1))))
noncomputable def dbl_UMul_sp : TX.Spec := specD [.val (.int .i64), .val (.int .i64)] [] fun _ a m k => match a, m with | ⟨a0, a1, _⟩, _ => k (.agg [.lit (.int .i64 ((dbl_UMul a0 a1).1)), .lit (.int .i64 ((dbl_UMul a0 a1).2))]) []
theorem dbl_UMul_ev {α : Type} (a0 : Int) (a1 : Int) (k : Kont α) : evFun Try.prog E2 (dbl_UMul_h0) false Try.f27 (bodyOf Try.f27) 60 (mkS [.val (.int .i64), .val (.int .i64)] (a0, a1, ())) (mkH [] ()) k = k (.agg [.lit (.int .i64 ((dbl_UMul a0 a1).1)), .lit (.int .i64 ((dbl_UMul a0 a1).2))]) [] :=
  by kernel_rfl
theorem dbl_UMul_good : TX.Good Try.prog 27 dbl_UMul_sp := good_form E2_ok mixed Try.func27 (body_of rfl) (by kernel_rfl) false fun α a m k r h => by
  obtain ⟨a0, a1, _⟩ := a; obtain _ := m
  exact ⟨dbl_UMul_h0, 60, dbl_UMul_h0_ok, rfl, (dbl_UMul_ev a0 a1 k).trans h⟩
/-! f26 tenterhook/dbl.UMod -/
def dbl_UMod_h0 : Hints := Hints.nil 0
theorem dbl_UMod_h0_ok : dbl_UMod_h0.OK Try.prog (bodyOf Try.f26) := Hints.nil_ok
abbrev dbl_UMod_R : Type := (Int × Int × Int)
noncomputable def dbl_UMod_t {γ : Type} (a0_0 : Int) (a0_1 : Int) (a1 : Int) (k : dbl_UMod_R → Option γ) : Option γ := cond (a1 == (0 : Int)) (k ((0 : Int), (0 : Int), (-10 : Int))) (cond (!cell_Ult a0_1 a1) (k ((0 : Int), (0 : Int), (-11 : Int))) (outOf (dbl_long a0_0 a0_1 a1) fun (x1 : (Int × (Int × Int))) => k (Prod.fst x1, Prod.fst (Prod.snd x1), (0 : Int))))
noncomputable def dbl_UMod (a0_0 : Int) (a0_1 : Int) (a1 : Int) : Option dbl_UMod_R := dbl_UMod_t a0_0 a0_1 a1 some
theorem dbl_UMod_t_eq {γ : Type} (a0_0 : Int) (a0_1 : Int) (a1 : Int) (k : dbl_UMod_R → Option γ) : dbl_UMod_t a0_0 a0_1 a1 k = outOf (dbl_UMod a0_0 a0_1 a1) k := by
  delta dbl_UMod dbl_UMod_t; exact (Tr.nd Tr.lf (Tr.nd Tr.lf (Tr.bd fun x1 => Tr.lf)))
noncomputable def dbl_UMod_sp : TX.Spec := specD [.agg (.pair (.int .i64) (.int .i64)), .val (.int .i64)] [] fun _ a m k => match a, m with | ⟨⟨a0_0, a0_1⟩, a1, _⟩, _ => outOf (dbl_UMod a0_0 a0_1 a1) fun v => k (.tup [.lit (.int .i64 v.1), .lit (.int .i64 v.2.1), .lit (.int .i64 v.2.2)]) []
theorem dbl_UMod_ev {α : Type} (a0_0 : Int) (a0_1 : Int) (a1 : Int) (k : Kont α) : evFun Try.prog E2 (dbl_UMod_h0) false Try.f26 (bodyOf Try.f26) 60 (mkS [.agg (.pair (.int .i64) (.int .i64)), .val (.int .i64)] ((a0_0, a0_1), a1, ())) (mkH [] ()) k = outOf (dbl_UMod a0_0 a0_1 a1) fun v => k (.tup [.lit (.int .i64 v.1), .lit (.int .i64 v.2.1), .lit (.int .i64 v.2.2)]) [] :=
  (show _ = dbl_UMod_t a0_0 a0_1 a1 (fun v => k (.tup [.lit (.int .i64 v.1), .lit (.int .i64 v.2.1), .lit (.int .i64 v.2.2)]) []) from by kernel_rfl).trans (dbl_UMod_t_eq a0_0 a0_1 a1 _)
theorem dbl_UMod_good : TX.Good Try.prog 26 dbl_UMod_sp := good_form E2_ok mixed Try.func26 (body_of rfl) (by kernel_rfl) false fun α a m k r h => by
  obtain ⟨⟨a0_0, a0_1⟩, a1, _⟩ := a; obtain _ := m
  exact ⟨dbl_UMod_h0, 60, dbl_UMod_h0_ok, rfl, (dbl_UMod_ev a0_0 a0_1 a1 k).trans h⟩
/-! f50 tenterhook/dbl.fits -/
def dbl_fits_h0 : Hints := Hints.nil 0
theorem dbl_fits_h0_ok : dbl_fits_h0.OK Try.prog (bodyOf Try.f50) := Hints.nil_ok
abbrev dbl_fits_R : Type := (Int × Int × Int)
noncomputable def dbl_fits_t {γ : Type} (a0 : Int) (a1_0 : Int) (a1_1 : Int) (a2 : Bool) (k : dbl_fits_R → Option γ) : Option γ := cond (!a2) (k ((0 : Int), (0 : Int), (-11 : Int))) (cond (!(a1_0 == Prod.fst (dbl_Of a1_0) && (a1_1 == Prod.snd (dbl_Of a1_0) && true))) (k ((0 : Int), (0 : Int), (-11 : Int))) (k (a0, a1_0, (0 : Int))))
noncomputable def dbl_fits (a0 : Int) (a1_0 : Int) (a1_1 : Int) (a2 : Bool) : Option dbl_fits_R := dbl_fits_t a0 a1_0 a1_1 a2 some
theorem dbl_fits_t_eq {γ : Type} (a0 : Int) (a1_0 : Int) (a1_1 : Int) (a2 : Bool) (k : dbl_fits_R → Option γ) : dbl_fits_t a0 a1_0 a1_1 a2 k = outOf (dbl_fits a0 a1_0 a1_1 a2) k := by
  delta dbl_fits dbl_fits_t; exact (Tr.nd Tr.lf (Tr.nd Tr.lf Tr.lf))
noncomputable def dbl_fits_sp : TX.Spec := specD [.val (.int .i64), .agg (.pair (.int .i64) (.int .i64)), .val .bool] [] fun _ a m k => match a, m with | ⟨a0, ⟨a1_0, a1_1⟩, a2, _⟩, _ => outOf (dbl_fits a0 a1_0 a1_1 a2) fun v => k (.tup [.lit (.int .i64 v.1), .lit (.int .i64 v.2.1), .lit (.int .i64 v.2.2)]) []
theorem dbl_fits_ev {α : Type} (a0 : Int) (a1_0 : Int) (a1_1 : Int) (a2 : Bool) (k : Kont α) : evFun Try.prog E2 (dbl_fits_h0) false Try.f50 (bodyOf Try.f50) 60 (mkS [.val (.int .i64), .agg (.pair (.int .i64) (.int .i64)), .val .bool] (a0, (a1_0, a1_1), a2, ())) (mkH [] ()) k = outOf (dbl_fits a0 a1_0 a1_1 a2) fun v => k (.tup [.lit (.int .i64 v.1), .lit (.int .i64 v.2.1), .lit (.int .i64 v.2.2)]) [] :=
  (show _ = dbl_fits_t a0 a1_0 a1_1 a2 (fun v => k (.tup [.lit (.int .i64 v.1), .lit (.int .i64 v.2.1), .lit (.int .i64 v.2.2)]) []) from by kernel_rfl).trans (dbl_fits_t_eq a0 a1_0 a1_1 a2 _)
theorem dbl_fits_good : TX.Good Try.prog 50 dbl_fits_sp := good_form E2_ok mixed Try.func50 (body_of rfl) (by kernel_rfl) false fun α a m k r h => by
  obtain ⟨a0, ⟨a1_0, a1_1⟩, a2, _⟩ := a; obtain _ := m
  exact ⟨dbl_fits_h0, 60, dbl_fits_h0_ok, rfl, (dbl_fits_ev a0 a1_0 a1_1 a2 k).trans h⟩
noncomputable def E3 : Env := E2.add 17 true dbl_Neg_sp |>.add 48 true cmpI_sp |>.add 49 true cmpU_sp |>.add 27 true dbl_UMul_sp |>.add 26 true dbl_UMod_sp |>.add 50 true dbl_fits_sp
theorem E3_ok : E3.OK Try.prog := (((((E2_ok.add_ok dbl_Neg_good).add_ok cmpI_good).add_ok cmpU_good).add_ok dbl_UMul_good).add_ok dbl_UMod_good).add_ok dbl_fits_good
/-! f19 tenterhook/dbl.Cmp -/
def dbl_Cmp_h0 : Hints := Hints.nil 0
theorem dbl_Cmp_h0_ok : dbl_Cmp_h0.OK Try.prog (bodyOf Try.f19) := Hints.nil_ok
abbrev dbl_Cmp_R : Type := (Int)
noncomputable def dbl_Cmp_t {γ : Type} (a0_0 : Int) (a0_1 : Int) (a1_0 : Int) (a1_1 : Int) (k : dbl_Cmp_R → Option γ) : Option γ := outOf (cmpI a0_1 a1_1) fun (x1 : Int) => outOf (cmpU (IntKind.wrap IntKind.u64 a0_0) (IntKind.wrap IntKind.u64 a1_0)) fun (x2 : Int) => outOf (cmpOr [x1, x2]) fun (x3 : Int) => k (x3)
noncomputable def dbl_Cmp (a0_0 : Int) (a0_1 : Int) (a1_0 : Int) (a1_1 : Int) : Option dbl_Cmp_R := dbl_Cmp_t a0_0 a0_1 a1_0 a1_1 some
theorem dbl_Cmp_t_eq {γ : Type} (a0_0 : Int) (a0_1 : Int) (a1_0 : Int) (a1_1 : Int) (k : dbl_Cmp_R → Option γ) : dbl_Cmp_t a0_0 a0_1 a1_0 a1_1 k = outOf (dbl_Cmp a0_0 a0_1 a1_0 a1_1) k := by
  delta dbl_Cmp dbl_Cmp_t; exact (Tr.bd fun x1 => (Tr.bd fun x2 => (Tr.bd fun x3 => Tr.lf)))
noncomputable def dbl_Cmp_sp : TX.Spec := specD [.agg (.pair (.int .i64) (.int .i64)), .agg (.pair (.int .i64) (.int .i64))] [] fun _ a m k => match a, m with | ⟨⟨a0_0, a0_1⟩, ⟨a1_0, a1_1⟩, _⟩, _ => outOf (dbl_Cmp a0_0 a0_1 a1_0 a1_1) fun v => k (.lit (.int .i64 v)) []
theorem dbl_Cmp_ev {α : Type} (a0_0 : Int) (a0_1 : Int) (a1_0 : Int) (a1_1 : Int) (k : Kont α) : evFun Try.prog E3 (dbl_Cmp_h0) false Try.f19 (bodyOf Try.f19) 60 (mkS [.agg (.pair (.int .i64) (.int .i64)), .agg (.pair (.int .i64) (.int .i64))] ((a0_0, a0_1), (a1_0, a1_1), ())) (mkH [] ()) k = outOf (dbl_Cmp a0_0 a0_1 a1_0 a1_1) fun v => k (.lit (.int .i64 v)) [] :=
  (show _ = dbl_Cmp_t a0_0 a0_1 a1_0 a1_1 (fun v => k (.lit (.int .i64 v)) []) from by kernel_rfl).trans (dbl_Cmp_t_eq a0_0 a0_1 a1_0 a1_1 _)
theorem dbl_Cmp_good : TX.Good Try.prog 19 dbl_Cmp_sp := good_form E3_ok mixed Try.func19 (body_of rfl) (by kernel_rfl) false fun α a m k r h => by
  obtain ⟨⟨a0_0, a0_1⟩, ⟨a1_0, a1_1⟩, _⟩ := a; obtain _ := m
  exact ⟨dbl_Cmp_h0, 60, dbl_Cmp_h0_ok, rfl, (dbl_Cmp_ev a0_0 a0_1 a1_0 a1_1 k).trans h⟩
/-! f25 tenterhook/dbl.Mul -/
def dbl_Mul_h0 : Hints := Hints.nil 0
theorem dbl_Mul_h0_ok : dbl_Mul_h0.OK Try.prog (bodyOf Try.f25) := Hints.nil_ok
abbrev dbl_Mul_R : Type := (Int × Int)
noncomputable def dbl_Mul_t {γ : Type} (a0 : Int) (a1 : Int) (k : dbl_Mul_R → Option γ) : Option γ := cond (decide (a0 < (0 : Int))) (cond (decide (a1 < (0 : Int))) (k (Prod.fst (dbl_UMul a0 a1), IntKind.wrap IntKind.i64 (IntKind.wrap IntKind.i64 (Prod.snd (dbl_UMul a0 a1) - a1) - a0))) (k (Prod.fst (dbl_UMul a0 a1), IntKind.wrap IntKind.i64 (Prod.snd (dbl_UMul a0 a1) - a1)))) (cond (decide (a1 < (0 : Int))) (k (Prod.fst (dbl_UMul a0 a1), IntKind.wrap IntKind.i64 (Prod.snd (dbl_UMul a0 a1) - a0))) (k (Prod.fst (dbl_UMul a0 a1), Prod.snd (dbl_UMul a0 a1))))
noncomputable def dbl_Mul (a0 : Int) (a1 : Int) : Option dbl_Mul_R := dbl_Mul_t a0 a1 some
theorem dbl_Mul_t_eq {γ : Type} (a0 : Int) (a1 : Int) (k : dbl_Mul_R → Option γ) : dbl_Mul_t a0 a1 k = outOf (dbl_Mul a0 a1) k := by
  delta dbl_Mul dbl_Mul_t; exact (Tr.nd (Tr.nd Tr.lf Tr.lf) (Tr.nd Tr.lf Tr.lf))
noncomputable def dbl_Mul_sp : TX.Spec := specD [.val (.int .i64), .val (.int .i64)] [] fun _ a m k => match a, m with | ⟨a0, a1, _⟩, _ => outOf (dbl_Mul a0 a1) fun v => k (.agg [.lit (.int .i64 v.1), .lit (.int .i64 v.2)]) []
theorem dbl_Mul_ev {α : Type} (a0 : Int) (a1 : Int) (k : Kont α) : evFun Try.prog E3 (dbl_Mul_h0) false Try.f25 (bodyOf Try.f25) 60 (mkS [.val (.int .i64), .val (.int .i64)] (a0, a1, ())) (mkH [] ()) k = outOf (dbl_Mul a0 a1) fun v => k (.agg [.lit (.int .i64 v.1), .lit (.int .i64 v.2)]) [] :=
  (show _ = dbl_Mul_t a0 a1 (fun v => k (.agg [.lit (.int .i64 v.1), .lit (.int .i64 v.2)]) []) from by kernel_rfl).trans (dbl_Mul_t_eq a0 a1 _)
theorem dbl_Mul_good : TX.Good Try.prog 25 dbl_Mul_sp := good_form E3_ok mixed Try.func25 (body_of rfl) (by kernel_rfl) false fun α a m k r h => by
  obtain ⟨a0, a1, _⟩ := a; obtain _ := m
  exact ⟨dbl_Mul_h0, 60, dbl_Mul_h0_ok, rfl, (dbl_Mul_ev a0 a1 k).trans h⟩
/-! f63 tenterhook/dbl.abs -/
def dbl_abs_h0 : Hints := Hints.nil 0
theorem dbl_abs_h0_ok : dbl_abs_h0.OK Try.prog (bodyOf Try.f63) := Hints.nil_ok
abbrev dbl_abs_R : Type := (Int × Int)
noncomputable def dbl_abs_t {γ : Type} (a0_0 : Int) (a0_1 : Int) (k : dbl_abs_R → Option γ) : Option γ := cond (decide (a0_1 < (0 : Int))) (outOf (dbl_Neg a0_0 a0_1) fun (x1 : (Int × Int)) => k (Prod.fst x1, Prod.snd x1)) (k (a0_0, a0_1))
noncomputable def dbl_abs (a0_0 : Int) (a0_1 : Int) : Option dbl_abs_R := dbl_abs_t a0_0 a0_1 some
theorem dbl_abs_t_eq {γ : Type} (a0_0 : Int) (a0_1 : Int) (k : dbl_abs_R → Option γ) : dbl_abs_t a0_0 a0_1 k = outOf (dbl_abs a0_0 a0_1) k := by
  delta dbl_abs dbl_abs_t; exact (Tr.nd (Tr.bd fun x1 => Tr.lf) Tr.lf)
noncomputable def dbl_abs_sp : TX.Spec := specD [.agg (.pair (.int .i64) (.int .i64))] [] fun _ a m k => match a, m with | ⟨⟨a0_0, a0_1⟩, _⟩, _ => outOf (dbl_abs a0_0 a0_1) fun v => k (.agg [.lit (.int .i64 v.1), .lit (.int .i64 v.2)]) []
theorem dbl_abs_ev {α : Type} (a0_0 : Int) (a0_1 : Int) (k : Kont α) : evFun Try.prog E3 (dbl_abs_h0) false Try.f63 (bodyOf Try.f63) 60 (mkS [.agg (.pair (.int .i64) (.int .i64))] ((a0_0, a0_1), ())) (mkH [] ()) k = outOf (dbl_abs a0_0 a0_1) fun v => k (.agg [.lit (.int .i64 v.1), .lit (.int .i64 v.2)]) [] :=
  (show _ = dbl_abs_t a0_0 a0_1 (fun v => k (.agg [.lit (.int .i64 v.1), .lit (.int .i64 v.2)]) []) from by kernel_rfl).trans (dbl_abs_t_eq a0_0 a0_1 _)
theorem dbl_abs_good : TX.Good Try.prog 63 dbl_abs_sp := good_form E3_ok mixed Try.func63 (body_of rfl) (by kernel_rfl) false fun α a m k r h => by
  obtain ⟨⟨a0_0, a0_1⟩, _⟩ := a; obtain _ := m
  exact ⟨dbl_abs_h0, 60, dbl_abs_h0_ok, rfl, (dbl_abs_ev a0_0 a0_1 k).trans h⟩
/-! f15 tenterhook/tenterhooklaw02.awake -/
def awake2_h0 : Hints := Hints.nil 0
theorem awake2_h0_ok : awake2_h0.OK Try.prog (bodyOf Try.f15) := Hints.nil_ok
abbrev awake2_R : Type := (Bool)
noncomputable def awake2_t {γ : Type} (k : awake2_R → Option γ) : Option γ := outOf (dbl_UMod (7 : Int) (0 : Int) (2 : Int)) fun (x1 : (Int × (Int × Int))) => cond (Prod.fst x1 == (1 : Int)) (cond (Prod.fst (Prod.snd x1) == (3 : Int)) (cond (Prod.snd (Prod.snd x1) == (0 : Int)) (k (true)) (k (false))) (k (false))) (k (false))
noncomputable def awake2 : Option awake2_R := awake2_t  some
theorem awake2_t_eq {γ : Type} (k : awake2_R → Option γ) : awake2_t  k = outOf awake2 k := by
  delta awake2 awake2_t; exact (Tr.bd fun x1 => (Tr.nd (Tr.nd (Tr.nd Tr.lf Tr.lf) Tr.lf) Tr.lf))
noncomputable def awake2_sp : TX.Spec := specD [] [] fun _ a m k => match a, m with | _, _ => outOf awake2 fun v => k (.lit (.bool v)) []
theorem awake2_ev {α : Type} (k : Kont α) : evFun Try.prog E3 (awake2_h0) false Try.f15 (bodyOf Try.f15) 60 (mkS [] ()) (mkH [] ()) k = outOf awake2 fun v => k (.lit (.bool v)) [] :=
  (show _ = awake2_t  (fun v => k (.lit (.bool v)) []) from by kernel_rfl).trans (awake2_t_eq  _)
theorem awake2_good : TX.Good Try.prog 15 awake2_sp := good_form E3_ok mixed Try.func15 (body_of rfl) (by kernel_rfl) false fun α a m k r h => by
  obtain _ := a; obtain _ := m
  exact ⟨awake2_h0, 60, awake2_h0_ok, rfl, (awake2_ev  k).trans h⟩
/-! f35 tenterhook/cell.Symm -/
def cell_Symm_h0 : Hints := Hints.nil 0
theorem cell_Symm_h0_ok : cell_Symm_h0.OK Try.prog (bodyOf Try.f35) := Hints.nil_ok
abbrev cell_Symm_R : Type := (Int × Int × Int)
noncomputable def cell_Symm_t {γ : Type} (a0 : Int) (a1 : Int) (k : cell_Symm_R → Option γ) : Option γ := cond (a1 == (0 : Int)) (k ((0 : Int), (0 : Int), (-10 : Int))) (cond (a1 == (-1 : Int)) (cond (a0 == (-9223372036854775808 : Int)) (k ((0 : Int), (0 : Int), (-11 : Int))) (cond (decide (a1 = (0 : Int))) (none) (cond (decide (a1 = (0 : Int))) (none) (k (IntKind.wrap IntKind.i64 (Int.tdiv a0 a1), Int.tmod a0 a1, (0 : Int)))))) (cond (decide (a1 = (0 : Int))) (none) (cond (decide (a1 = (0 : Int))) (none) (k (IntKind.wrap IntKind.i64 (Int.tdiv a0 a1), Int.tmod a0 a1, (0 : Int))))))
noncomputable def cell_Symm (a0 : Int) (a1 : Int) : Option cell_Symm_R := cell_Symm_t a0 a1 some
theorem cell_Symm_t_eq {γ : Type} (a0 : Int) (a1 : Int) (k : cell_Symm_R → Option γ) : cell_Symm_t a0 a1 k = outOf (cell_Symm a0 a1) k := by
  delta cell_Symm cell_Symm_t; exact (Tr.nd Tr.lf (Tr.nd (Tr.nd Tr.lf (Tr.nd Tr.no (Tr.nd Tr.no Tr.lf))) (Tr.nd Tr.no (Tr.nd Tr.no Tr.lf))))
noncomputable def cell_Symm_sp : TX.Spec := specD [.val (.int .i64), .val (.int .i64)] [] fun _ a m k => match a, m with | ⟨a0, a1, _⟩, _ => outOf (cell_Symm a0 a1) fun v => k (.tup [.lit (.int .i64 v.1), .lit (.int .i64 v.2.1), .lit (.int .i64 v.2.2)]) []
theorem cell_Symm_ev {α : Type} (a0 : Int) (a1 : Int) (k : Kont α) : evFun Try.prog E3 (cell_Symm_h0) false Try.f35 (bodyOf Try.f35) 60 (mkS [.val (.int .i64), .val (.int .i64)] (a0, a1, ())) (mkH [] ()) k = outOf (cell_Symm a0 a1) fun v => k (.tup [.lit (.int .i64 v.1), .lit (.int .i64 v.2.1), .lit (.int .i64 v.2.2)]) [] :=
  (show _ = cell_Symm_t a0 a1 (fun v => k (.tup [.lit (.int .i64 v.1), .lit (.int .i64 v.2.1), .lit (.int .i64 v.2.2)]) []) from by kernel_rfl).trans (cell_Symm_t_eq a0 a1 _)
theorem cell_Symm_good : TX.Good Try.prog 35 cell_Symm_sp := good_form E3_ok mixed Try.func35 (body_of rfl) (by kernel_rfl) false fun α a m k r h => by
  obtain ⟨a0, a1, _⟩ := a; obtain _ := m
  exact ⟨cell_Symm_h0, 60, cell_Symm_h0_ok, rfl, (cell_Symm_ev a0 a1 k).trans h⟩
noncomputable def E4 : Env := E3.add 19 true dbl_Cmp_sp |>.add 25 true dbl_Mul_sp |>.add 63 true dbl_abs_sp |>.add 15 true awake2_sp |>.add 35 true cell_Symm_sp
theorem E4_ok : E4.OK Try.prog := ((((E3_ok.add_ok dbl_Cmp_good).add_ok dbl_Mul_good).add_ok dbl_abs_good).add_ok awake2_good).add_ok cell_Symm_good
/-! f51 tenterhook/dbl.split -/
def dbl_split_h0 : Hints := Hints.nil 0
theorem dbl_split_h0_ok : dbl_split_h0.OK Try.prog (bodyOf Try.f51) := Hints.nil_ok
def dbl_split_M1_A : List SD := [.any, .val (.int .i64), .loc 0 0 0, .any, .any, .loc 1 0 0, .any, .val (.int .i64), .any, .any, .any, .any, .any, .any, .any, .any, .any, .any, .any, .any, .any, .any, .any, .any, .any, .any, .any, .any, .any, .any, .any, .any, .any, .any, .any, .any, .any, .any, .any, .any]
def dbl_split_M1_H : List HD := [.box [.val (.int .i64), .val (.int .i64)], .box [.val (.int .i64), .val (.int .i64)]]
abbrev dbl_split_M1_D : Type := Int × Int × Int × Int × Int × Int
def dbl_split_M1_to (a : DenS dbl_split_M1_A) (m : DenH dbl_split_M1_H) : dbl_split_M1_D := (a.2.1, a.2.2.2.2.2.2.2.1, m.1.1, m.1.2.1, m.2.1.1, m.2.1.2.1)
def dbl_split_M1_ofA (d : dbl_split_M1_D) : DenS dbl_split_M1_A := match d with | (s1, s7, m0_0, m0_1, m1_0, m1_1) => ((), s1, (), (), (), (), (), s7, (), (), (), (), (), (), (), (), (), (), (), (), (), (), (), (), (), (), (), (), (), (), (), (), (), (), (), (), (), (), (), (), ())
def dbl_split_M1_ofH (d : dbl_split_M1_D) : DenH dbl_split_M1_H := match d with | (s1, s7, m0_0, m0_1, m1_0, m1_1) => ((m0_0, m0_1, ()), (m1_0, m1_1, ()), ())
def dbl_split_M1_N : Norm := (⟨[1, 2, 5, 7], [], []⟩ : Norm)
def dbl_split_M1_X : Exit → Norm := fun e => match e with | .normal => ⟨[1, 2, 5, 7], [], []⟩ | _ => ⟨[], [], []⟩
abbrev dbl_split_M1_R : Type := (Int)
def dbl_split_M1_fin (d : dbl_split_M1_D) (v : dbl_split_M1_R) : Exit × St := (.normal, ⟨[.any, .lit (.int .i64 d.1), .ptr 0 0 0, .any, .any, .ptr 1 0 0, .any, .lit (.int .i64 v), .any, .any, .any, .any, .any, .any, .any, .any, .any, .any, .any, .any, .any, .any, .any, .any, .any, .any, .any, .any, .any, .any, .any, .any, .any, .any, .any, .any, .any, .any, .any, .any], [.box [.lit (.int .i64 d.2.2.1), .lit (.int .i64 d.2.2.2.1)], .box [.lit (.int .i64 d.2.2.2.2.1), .lit (.int .i64 d.2.2.2.2.2)]]⟩)
noncomputable def dbl_split_M1_t {γ : Type} (s1 : Int) (s7 : Int) (k : dbl_split_M1_R → Option γ) : Option γ := cond (decide (s1 < (0 : Int))) (k (IntKind.wrap IntKind.i64 ((0 : Int) - s1))) (k (s7))
noncomputable def dbl_split_M1 (s1 : Int) (s7 : Int) : Option dbl_split_M1_R := dbl_split_M1_t s1 s7 some
theorem dbl_split_M1_t_eq {γ : Type} (s1 : Int) (s7 : Int) (k : dbl_split_M1_R → Option γ) : dbl_split_M1_t s1 s7 k = outOf (dbl_split_M1 s1 s7) k := by
  delta dbl_split_M1 dbl_split_M1_t; exact (Tr.nd Tr.lf Tr.lf)
theorem dbl_split_M1_ev (α : Type) (d : dbl_split_M1_D) (k : Exit → St → Option α) : ev Try.prog E4 dbl_split_h0 60 [0, 1, 1] ((codeAt (bodyOf Try.f51) [0, 1, 1]).getD .skip) ⟨mkS dbl_split_M1_A (dbl_split_M1_ofA d), mkH dbl_split_M1_H (dbl_split_M1_ofH d)⟩ (exitN 0 dbl_split_M1_X k) = outOf (dbl_split_M1 d.1 d.2.1) fun x => k (dbl_split_M1_fin d x).1 (dbl_split_M1_fin d x).2 := by
  obtain ⟨s1, s7, m0_0, m0_1, m1_0, m1_1⟩ := d
  exact (show _ = dbl_split_M1_t s1 s7 (fun x => k (dbl_split_M1_fin (s1, s7, m0_0, m0_1, m1_0, m1_1) x).1 (dbl_split_M1_fin (s1, s7, m0_0, m0_1, m1_0, m1_1) x).2) from by kernel_rfl).trans (dbl_split_M1_t_eq s1 s7 _)
noncomputable def dbl_split_M1_sp : CSpec := fun _ st k => reNorm 0 dbl_split_M1_N dbl_split_M1_A dbl_split_M1_H st fun a m => outOf (dbl_split_M1 (dbl_split_M1_to a m).1 (dbl_split_M1_to a m).2.1) fun v => k .normal ⟨[.any, .lit (.int .i64 (dbl_split_M1_to a m).1), .ptr 0 0 0, .any, .any, .ptr 1 0 0, .any, .lit (.int .i64 v), .any, .any, .any, .any, .any, .any, .any, .any, .any, .any, .any, .any, .any, .any, .any, .any, .any, .any, .any, .any, .any, .any, .any, .any, .any, .any, .any, .any, .any, .any, .any, .any], [.box [.lit (.int .i64 (dbl_split_M1_to a m).2.2.1), .lit (.int .i64 (dbl_split_M1_to a m).2.2.2.1)], .box [.lit (.int .i64 (dbl_split_M1_to a m).2.2.2.2.1), .lit (.int .i64 (dbl_split_M1_to a m).2.2.2.2.2)]]⟩
theorem dbl_split_M1_ok : SumOK Try.prog 0 ((codeAt (bodyOf Try.f51) [0, 1, 1]).getD .skip) dbl_split_M1_sp := (SumOK.once E4_ok mixed dbl_split_h0_ok (show codeAt (bodyOf Try.f51) [0, 1, 1] = some ((codeAt (bodyOf Try.f51) [0, 1, 1]).getD .skip) from by kernel_rfl) (N := dbl_split_M1_N) (Nx := dbl_split_M1_X) (A := dbl_split_M1_A) (Hs := dbl_split_M1_H) (toD := dbl_split_M1_to) (ofA := dbl_split_M1_ofA) (ofH := dbl_split_M1_ofH) (fun _ _ => rfl) (fun _ _ => rfl) (M := fun d => dbl_split_M1 d.1 d.2.1) (fin := dbl_split_M1_fin) 60 dbl_split_M1_ev).mono fun α st k r h => by
  refine Eq.trans (congrArg (reNorm 0 dbl_split_M1_N dbl_split_M1_A dbl_split_M1_H st) ?_) h
  funext a m
  exact outOf_congr fun x => rfl
noncomputable def dbl_split_M1_h : Hints := dbl_split_h0.add [0, 1, 1] dbl_split_M1_sp
theorem dbl_split_M1_h_ok : dbl_split_M1_h.OK Try.prog (bodyOf Try.f51) := dbl_split_h0_ok.add (show codeAt (bodyOf Try.f51) [0, 1, 1] = some ((codeAt (bodyOf Try.f51) [0, 1, 1]).getD .skip) from by kernel_rfl) dbl_split_M1_ok
def dbl_split_M2_A : List SD := [.any, .val (.int .i64), .loc 0 0 0, .any, .any, .loc 1 0 0, .any, .any, .val (.int .i64), .loc 2 0 0, .any, .any, .any, .any, .any, .any, .any, .any, .any, .any, .any, .any, .any, .any, .any, .any, .any, .any, .any, .any, .any, .any, .any, .any, .any, .any, .any, .any, .any, .any]
def dbl_split_M2_H : List HD := [.box [.val (.int .i64), .val (.int .i64)], .box [.val (.int .i64), .val (.int .i64)], .box [.val (.int .i64), .val (.int .i64)]]
abbrev dbl_split_M2_D : Type := Int × Int × Int × Int × Int × Int × Int × Int
def dbl_split_M2_to (a : DenS dbl_split_M2_A) (m : DenH dbl_split_M2_H) : dbl_split_M2_D := (a.2.1, a.2.2.2.2.2.2.2.2.1, m.1.1, m.1.2.1, m.2.1.1, m.2.1.2.1, m.2.2.1.1, m.2.2.1.2.1)
def dbl_split_M2_ofA (d : dbl_split_M2_D) : DenS dbl_split_M2_A := match d with | (s1, s8, m0_0, m0_1, m1_0, m1_1, m2_0, m2_1) => ((), s1, (), (), (), (), (), (), s8, (), (), (), (), (), (), (), (), (), (), (), (), (), (), (), (), (), (), (), (), (), (), (), (), (), (), (), (), (), (), (), ())
def dbl_split_M2_ofH (d : dbl_split_M2_D) : DenH dbl_split_M2_H := match d with | (s1, s8, m0_0, m0_1, m1_0, m1_1, m2_0, m2_1) => ((m0_0, m0_1, ()), (m1_0, m1_1, ()), (m2_0, m2_1, ()), ())
def dbl_split_M2_N : Norm := (⟨[1, 2, 5, 8, 9], [], []⟩ : Norm)
def dbl_split_M2_X : Exit → Norm := fun e => match e with | .normal => ⟨[1, 2, 5, 8, 9], [], []⟩ | _ => ⟨[], [], []⟩
abbrev dbl_split_M2_R : Type := (Int)
def dbl_split_M2_fin (d : dbl_split_M2_D) (v : dbl_split_M2_R) : Exit × St := (.normal, ⟨[.any, .lit (.int .i64 d.1), .ptr 0 0 0, .any, .any, .ptr 1 0 0, .any, .any, .lit (.int .i64 v), .ptr 2 0 0, .any, .any, .any, .any, .any, .any, .any, .any, .any, .any, .any, .any, .any, .any, .any, .any, .any, .any, .any, .any, .any, .any, .any, .any, .any, .any, .any, .any, .any, .any], [.box [.lit (.int .i64 d.2.2.1), .lit (.int .i64 d.2.2.2.1)], .box [.lit (.int .i64 d.2.2.2.2.1), .lit (.int .i64 d.2.2.2.2.2.1)], .box [.lit (.int .i64 d.2.2.2.2.2.2.1), .lit (.int .i64 d.2.2.2.2.2.2.2)]]⟩)
noncomputable def dbl_split_M2_t {γ : Type} (s8 : Int) (m0_1 : Int) (k : dbl_split_M2_R → Option γ) : Option γ := cond (decide (m0_1 < (0 : Int))) (k (IntKind.wrap IntKind.i64 ((0 : Int) - s8))) (k (s8))
noncomputable def dbl_split_M2 (s8 : Int) (m0_1 : Int) : Option dbl_split_M2_R := dbl_split_M2_t s8 m0_1 some
theorem dbl_split_M2_t_eq {γ : Type} (s8 : Int) (m0_1 : Int) (k : dbl_split_M2_R → Option γ) : dbl_split_M2_t s8 m0_1 k = outOf (dbl_split_M2 s8 m0_1) k := by
  delta dbl_split_M2 dbl_split_M2_t; exact (Tr.nd Tr.lf Tr.lf)
theorem dbl_split_M2_ev (α : Type) (d : dbl_split_M2_D) (k : Exit → St → Option α) : ev Try.prog E4 dbl_split_M1_h 60 [0, 1, 1, 1, 1] ((codeAt (bodyOf Try.f51) [0, 1, 1, 1, 1]).getD .skip) ⟨mkS dbl_split_M2_A (dbl_split_M2_ofA d), mkH dbl_split_M2_H (dbl_split_M2_ofH d)⟩ (exitN 0 dbl_split_M2_X k) = outOf (dbl_split_M2 d.2.1 d.2.2.2.1) fun x => k (dbl_split_M2_fin d x).1 (dbl_split_M2_fin d x).2 := by
  obtain ⟨s1, s8, m0_0, m0_1, m1_0, m1_1, m2_0, m2_1⟩ := d
  exact (show _ = dbl_split_M2_t s8 m0_1 (fun x => k (dbl_split_M2_fin (s1, s8, m0_0, m0_1, m1_0, m1_1, m2_0, m2_1) x).1 (dbl_split_M2_fin (s1, s8, m0_0, m0_1, m1_0, m1_1, m2_0, m2_1) x).2) from by kernel_rfl).trans (dbl_split_M2_t_eq s8 m0_1 _)
noncomputable def dbl_split_M2_sp : CSpec := fun _ st k => reNorm 0 dbl_split_M2_N dbl_split_M2_A dbl_split_M2_H st fun a m => outOf (dbl_split_M2 (dbl_split_M2_to a m).2.1 (dbl_split_M2_to a m).2.2.2.1) fun v => k .normal ⟨[.any, .lit (.int .i64 (dbl_split_M2_to a m).1), .ptr 0 0 0, .any, .any, .ptr 1 0 0, .any, .any, .lit (.int .i64 v), .ptr 2 0 0, .any, .any, .any, .any, .any, .any, .any, .any, .any, .any, .any, .any, .any, .any, .any, .any, .any, .any, .any, .any, .any, .any, .any, .any, .any, .any, .any, .any, .any, .any], [.box [.lit (.int .i64 (dbl_split_M2_to a m).2.2.1), .lit (.int .i64 (dbl_split_M2_to a m).2.2.2.1)], .box [.lit (.int .i64 (dbl_split_M2_to a m).2.2.2.2.1), .lit (.int .i64 (dbl_split_M2_to a m).2.2.2.2.2.1)], .box [.lit (.int .i64 (dbl_split_M2_to a m).2.2.2.2.2.2.1), .lit (.int .i64 (dbl_split_M2_to a m).2.2.2.2.2.2.2)]]⟩
theorem dbl_split_M2_ok : SumOK Try.prog 0 ((codeAt (bodyOf Try.f51) [0, 1, 1, 1, 1]).getD .skip) dbl_split_M2_sp := (SumOK.once E4_ok mixed dbl_split_M1_h_ok (show codeAt (bodyOf Try.f51) [0, 1, 1, 1, 1] = some ((codeAt (bodyOf Try.f51) [0, 1, 1, 1, 1]).getD .skip) from by kernel_rfl) (N := dbl_split_M2_N) (Nx := dbl_split_M2_X) (A := dbl_split_M2_A) (Hs := dbl_split_M2_H) (toD := dbl_split_M2_to) (ofA := dbl_split_M2_ofA) (ofH := dbl_split_M2_ofH) (fun _ _ => rfl) (fun _ _ => rfl) (M := fun d => dbl_split_M2 d.2.1 d.2.2.2.1) (fin := dbl_split_M2_fin) 60 dbl_split_M2_ev).mono fun α st k r h => by
  refine Eq.trans (congrArg (reNorm 0 dbl_split_M2_N dbl_split_M2_A dbl_split_M2_H st) ?_) h
  funext a m
  exact outOf_congr fun x => rfl
noncomputable def dbl_split_M2_h : Hints := dbl_split_M1_h.add [0, 1, 1, 1, 1] dbl_split_M2_sp
theorem dbl_split_M2_h_ok : dbl_split_M2_h.OK Try.prog (bodyOf Try.f51) := dbl_split_M1_h_ok.add (show codeAt (bodyOf Try.f51) [0, 1, 1, 1, 1] = some ((codeAt (bodyOf Try.f51) [0, 1, 1, 1, 1]).getD .skip) from by kernel_rfl) dbl_split_M2_ok
abbrev dbl_split_R : Type := (Int × Int × Int × Bool)
noncomputable def dbl_split_t {γ : Type} (a0_0 : Int) (a0_1 : Int) (a1 : Int) (k : dbl_split_R → Option γ) : Option γ := outOf (dbl_split_M1 a1 a1) fun (x1 : Int) => outOf (dbl_abs a0_0 a0_1) fun (x2 : (Int × Int)) => outOf (dbl_long (Prod.fst x2) (Prod.snd x2) x1) fun (x3 : (Int × (Int × Int))) => outOf (dbl_split_M2 (Prod.fst x3) a0_1) fun (x4 : Int) => cond (decide (ibits BinOp.xor IntKind.i64 a0_1 a1 < (0 : Int))) (outOf (dbl_Neg (Prod.fst (Prod.snd x3)) (Prod.snd (Prod.snd x3))) fun (x5 : (Int × Int)) => k (x4, Prod.fst x5, Prod.snd x5, true)) (k (x4, Prod.fst (Prod.snd x3), Prod.snd (Prod.snd x3), decide (Prod.snd (Prod.snd x3) ≥ (0 : Int))))
noncomputable def dbl_split (a0_0 : Int) (a0_1 : Int) (a1 : Int) : Option dbl_split_R := dbl_split_t a0_0 a0_1 a1 some
theorem dbl_split_t_eq {γ : Type} (a0_0 : Int) (a0_1 : Int) (a1 : Int) (k : dbl_split_R → Option γ) : dbl_split_t a0_0 a0_1 a1 k = outOf (dbl_split a0_0 a0_1 a1) k := by
  delta dbl_split dbl_split_t; exact (Tr.bd fun x1 => (Tr.bd fun x2 => (Tr.bd fun x3 => (Tr.bd fun x4 => (Tr.nd (Tr.bd fun x5 => Tr.lf) Tr.lf)))))
noncomputable def dbl_split_sp : TX.Spec := specD [.agg (.pair (.int .i64) (.int .i64)), .val (.int .i64)] [] fun _ a m k => match a, m with | ⟨⟨a0_0, a0_1⟩, a1, _⟩, _ => outOf (dbl_split a0_0 a0_1 a1) fun v => k (.tup [.lit (.int .i64 v.1), .agg [.lit (.int .i64 v.2.1), .lit (.int .i64 v.2.2.1)], .lit (.bool v.2.2.2)]) []
theorem dbl_split_ev {α : Type} (a0_0 : Int) (a0_1 : Int) (a1 : Int) (k : Kont α) : evFun Try.prog E4 (dbl_split_M2_h) false Try.f51 (bodyOf Try.f51) 60 (mkS [.agg (.pair (.int .i64) (.int .i64)), .val (.int .i64)] ((a0_0, a0_1), a1, ())) (mkH [] ()) k = outOf (dbl_split a0_0 a0_1 a1) fun v => k (.tup [.lit (.int .i64 v.1), .agg [.lit (.int .i64 v.2.1), .lit (.int .i64 v.2.2.1)], .lit (.bool v.2.2.2)]) [] :=
  (show _ = dbl_split_t a0_0 a0_1 a1 (fun v => k (.tup [.lit (.int .i64 v.1), .agg [.lit (.int .i64 v.2.1), .lit (.int .i64 v.2.2.1)], .lit (.bool v.2.2.2)]) []) from by kernel_rfl).trans (dbl_split_t_eq a0_0 a0_1 a1 _)
theorem dbl_split_good : TX.Good Try.prog 51 dbl_split_sp := good_form E4_ok mixed Try.func51 (body_of rfl) (by kernel_rfl) false fun α a m k r h => by
  obtain ⟨⟨a0_0, a0_1⟩, a1, _⟩ := a; obtain _ := m
  exact ⟨dbl_split_M2_h, 60, dbl_split_M2_h_ok, rfl, (dbl_split_ev a0_0 a0_1 a1 k).trans h⟩
/-! f42 tenterhook/cell.Floor -/
def cell_Floor_h0 : Hints := Hints.nil 0
theorem cell_Floor_h0_ok : cell_Floor_h0.OK Try.prog (bodyOf Try.f42) := Hints.nil_ok
abbrev cell_Floor_R : Type := (Int × Int × Int)
noncomputable def cell_Floor_t {γ : Type} (a0 : Int) (a1 : Int) (k : cell_Floor_R → Option γ) : Option γ := outOf (cell_Symm a0 a1) fun (x1 : (Int × (Int × Int))) => cond (Prod.fst (Prod.snd x1) != (0 : Int)) (cond (decide (ibits BinOp.xor IntKind.i64 (Prod.fst (Prod.snd x1)) a1 < (0 : Int))) (k (IntKind.wrap IntKind.i64 (Prod.fst x1 - (1 : Int)), IntKind.wrap IntKind.i64 (Prod.fst (Prod.snd x1) + a1), Prod.snd (Prod.snd x1))) (k (Prod.fst x1, Prod.fst (Prod.snd x1), Prod.snd (Prod.snd x1)))) (k (Prod.fst x1, Prod.fst (Prod.snd x1), Prod.snd (Prod.snd x1)))
noncomputable def cell_Floor (a0 : Int) (a1 : Int) : Option cell_Floor_R := cell_Floor_t a0 a1 some
theorem cell_Floor_t_eq {γ : Type} (a0 : Int) (a1 : Int) (k : cell_Floor_R → Option γ) : cell_Floor_t a0 a1 k = outOf (cell_Floor a0 a1) k := by
  delta cell_Floor cell_Floor_t; exact (Tr.bd fun x1 => (Tr.nd (Tr.nd Tr.lf Tr.lf) Tr.lf))
noncomputable def cell_Floor_sp : TX.Spec := specD [.val (.int .i64), .val (.int .i64)] [] fun _ a m k => match a, m with | ⟨a0, a1, _⟩, _ => outOf (cell_Floor a0 a1) fun v => k (.tup [.lit (.int .i64 v.1), .lit (.int .i64 v.2.1), .lit (.int .i64 v.2.2)]) []
theorem cell_Floor_ev {α : Type} (a0 : Int) (a1 : Int) (k : Kont α) : evFun Try.prog E4 (cell_Floor_h0) false Try.f42 (bodyOf Try.f42) 60 (mkS [.val (.int .i64), .val (.int .i64)] (a0, a1, ())) (mkH [] ()) k = outOf (cell_Floor a0 a1) fun v => k (.tup [.lit (.int .i64 v.1), .lit (.int .i64 v.2.1), .lit (.int .i64 v.2.2)]) [] :=
  (show _ = cell_Floor_t a0 a1 (fun v => k (.tup [.lit (.int .i64 v.1), .lit (.int .i64 v.2.1), .lit (.int .i64 v.2.2)]) []) from by kernel_rfl).trans (cell_Floor_t_eq a0 a1 _)
theorem cell_Floor_good : TX.Good Try.prog 42 cell_Floor_sp := good_form E4_ok mixed Try.func42 (body_of rfl) (by kernel_rfl) false fun α a m k r h => by
  obtain ⟨a0, a1, _⟩ := a; obtain _ := m
  exact ⟨cell_Floor_h0, 60, cell_Floor_h0_ok, rfl, (cell_Floor_ev a0 a1 k).trans h⟩
end Go.Proofs.Dbl
