import Derived.Test.YtnopacpjimllhaaDbXA
namespace Go.Proofs.Dbl
open Go Go.TX Go.Proofs
set_option maxRecDepth 100000
set_option linter.unusedVariables false
set_option maxHeartbeats 0
noncomputable def E5 : Env := E4.add 51 true dbl_split_sp |>.add 42 true cell_Floor_sp
theorem E5_ok : E5.OK Try.prog := (E4_ok.add_ok dbl_split_good).add_ok cell_Floor_good
/-! f24 tenterhook/dbl.Symm -/
def dbl_Symm_h0 : Hints := Hints.nil 0
theorem dbl_Symm_h0_ok : dbl_Symm_h0.OK Try.prog (bodyOf Try.f24) := Hints.nil_ok
abbrev dbl_Symm_R : Type := (Int × Int × Int)
noncomputable def dbl_Symm_t {γ : Type} (a0_0 : Int) (a0_1 : Int) (a1 : Int) (k : dbl_Symm_R → Option γ) : Option γ := cond (a1 == (0 : Int)) (k ((0 : Int), (0 : Int), (-10 : Int))) (outOf (dbl_split a0_0 a0_1 a1) fun (x1 : (Int × (Int × (Int × Bool)))) => outOf (dbl_fits (Prod.fst x1) (Prod.fst (Prod.snd x1)) (Prod.fst (Prod.snd (Prod.snd x1))) (Prod.snd (Prod.snd (Prod.snd x1)))) fun (x2 : (Int × (Int × Int))) => k (Prod.fst x2, Prod.fst (Prod.snd x2), Prod.snd (Prod.snd x2)))
noncomputable def dbl_Symm (a0_0 : Int) (a0_1 : Int) (a1 : Int) : Option dbl_Symm_R := dbl_Symm_t a0_0 a0_1 a1 some
theorem dbl_Symm_t_eq {γ : Type} (a0_0 : Int) (a0_1 : Int) (a1 : Int) (k : dbl_Symm_R → Option γ) : dbl_Symm_t a0_0 a0_1 a1 k = outOf (dbl_Symm a0_0 a0_1 a1) k := by
  delta dbl_Symm dbl_Symm_t; exact (Tr.nd Tr.lf (Tr.bd fun x1 => (Tr.bd fun x2 => Tr.lf)))
noncomputable def dbl_Symm_sp : TX.Spec := specD [.agg (.pair (.int .i64) (.int .i64)), .val (.int .i64)] [] fun _ a m k => match a, m with | ⟨⟨a0_0, a0_1⟩, a1, _⟩, _ => outOf (dbl_Symm a0_0 a0_1 a1) fun v => k (.tup [.lit (.int .i64 v.1), .lit (.int .i64 v.2.1), .lit (.int .i64 v.2.2)]) []
theorem dbl_Symm_ev {α : Type} (a0_0 : Int) (a0_1 : Int) (a1 : Int) (k : Kont α) : evFun Try.prog E5 (dbl_Symm_h0) false Try.f24 (bodyOf Try.f24) 60 (mkS [.agg (.pair (.int .i64) (.int .i64)), .val (.int .i64)] ((a0_0, a0_1), a1, ())) (mkH [] ()) k = outOf (dbl_Symm a0_0 a0_1 a1) fun v => k (.tup [.lit (.int .i64 v.1), .lit (.int .i64 v.2.1), .lit (.int .i64 v.2.2)]) [] :=
  (show _ = dbl_Symm_t a0_0 a0_1 a1 (fun v => k (.tup [.lit (.int .i64 v.1), .lit (.int .i64 v.2.1), .lit (.int .i64 v.2.2)]) []) from by kernel_rfl).trans (dbl_Symm_t_eq a0_0 a0_1 a1 _)
theorem dbl_Symm_good : TX.Good Try.prog 24 dbl_Symm_sp := good_form E5_ok mixed Try.func24 (body_of rfl) (by kernel_rfl) false fun α a m k r h => by
  obtain ⟨⟨a0_0, a0_1⟩, a1, _⟩ := a; obtain _ := m
  exact ⟨dbl_Symm_h0, 60, dbl_Symm_h0_ok, rfl, (dbl_Symm_ev a0_0 a0_1 a1 k).trans h⟩
/-! f34 tenterhook/dbl.Floor -/
def dbl_Floor_h0 : Hints := Hints.nil 0
theorem dbl_Floor_h0_ok : dbl_Floor_h0.OK Try.prog (bodyOf Try.f34) := Hints.nil_ok
def dbl_Floor_M1_A : List SD := [.any, .val (.int .i64), .loc 0 0 0, .any, .any, .any, .any, .val (.int .i64), .loc 1 0 0, .val .bool, .any, .any, .any, .any, .any, .any, .any, .any, .any, .any, .any, .any, .any, .any, .any, .any, .any, .any, .any, .any, .any, .any, .any, .any, .any, .any, .any, .any, .any, .any, .any]
def dbl_Floor_M1_H : List HD := [.box [.val (.int .i64), .val (.int .i64)], .box [.val (.int .i64), .val (.int .i64)]]
abbrev dbl_Floor_M1_D : Type := Int × Int × Bool × Int × Int × Int × Int
def dbl_Floor_M1_to (a : DenS dbl_Floor_M1_A) (m : DenH dbl_Floor_M1_H) : dbl_Floor_M1_D := (a.2.1, a.2.2.2.2.2.2.2.1, a.2.2.2.2.2.2.2.2.2.1, m.1.1, m.1.2.1, m.2.1.1, m.2.1.2.1)
def dbl_Floor_M1_ofA (d : dbl_Floor_M1_D) : DenS dbl_Floor_M1_A := match d with | (s1, s7, s9, m0_0, m0_1, m1_0, m1_1) => ((), s1, (), (), (), (), (), s7, (), s9, (), (), (), (), (), (), (), (), (), (), (), (), (), (), (), (), (), (), (), (), (), (), (), (), (), (), (), (), (), (), (), ())
def dbl_Floor_M1_ofH (d : dbl_Floor_M1_D) : DenH dbl_Floor_M1_H := match d with | (s1, s7, s9, m0_0, m0_1, m1_0, m1_1) => ((m0_0, m0_1, ()), (m1_0, m1_1, ()), ())
def dbl_Floor_M1_N : Norm := (⟨[1, 2, 7, 8, 9], [], []⟩ : Norm)
def dbl_Floor_M1_X : Exit → Norm := fun e => match e with | .normal => ⟨[1, 7, 8, 9, 27], [], []⟩ | _ => ⟨[], [], []⟩
abbrev dbl_Floor_M1_R : Type := (Bool)
def dbl_Floor_M1_fin (d : dbl_Floor_M1_D) (v : dbl_Floor_M1_R) : Exit × St := (.normal, ⟨[.any, .lit (.int .i64 d.1), .any, .any, .any, .any, .any, .lit (.int .i64 d.2.1), .ptr 0 0 0, .lit (.bool d.2.2.1), .any, .any, .any, .any, .any, .any, .any, .any, .any, .any, .any, .any, .any, .any, .any, .any, .any, .lit (.bool v), .any, .any, .any, .any, .any, .any, .any, .any, .any, .any, .any, .any, .any], [.box [.lit (.int .i64 d.2.2.2.2.2.1), .lit (.int .i64 d.2.2.2.2.2.2)]]⟩)
noncomputable def dbl_Floor_M1_t {γ : Type} (s1 : Int) (s7 : Int) (m0_1 : Int) (k : dbl_Floor_M1_R → Option γ) : Option γ := cond (s7 != (0 : Int)) (k (decide (ibits BinOp.xor IntKind.i64 m0_1 s1 < (0 : Int)))) (k (false))
noncomputable def dbl_Floor_M1 (s1 : Int) (s7 : Int) (m0_1 : Int) : Option dbl_Floor_M1_R := dbl_Floor_M1_t s1 s7 m0_1 some
theorem dbl_Floor_M1_t_eq {γ : Type} (s1 : Int) (s7 : Int) (m0_1 : Int) (k : dbl_Floor_M1_R → Option γ) : dbl_Floor_M1_t s1 s7 m0_1 k = outOf (dbl_Floor_M1 s1 s7 m0_1) k := by
  delta dbl_Floor_M1 dbl_Floor_M1_t; exact (Tr.nd Tr.lf Tr.lf)
theorem dbl_Floor_M1_ev (α : Type) (d : dbl_Floor_M1_D) (k : Exit → St → Option α) : ev Try.prog E5 dbl_Floor_h0 60 [0, 0, 1, 1, 1] ((codeAt (bodyOf Try.f34) [0, 0, 1, 1, 1]).getD .skip) ⟨mkS dbl_Floor_M1_A (dbl_Floor_M1_ofA d), mkH dbl_Floor_M1_H (dbl_Floor_M1_ofH d)⟩ (exitN 0 dbl_Floor_M1_X k) = outOf (dbl_Floor_M1 d.1 d.2.1 d.2.2.2.2.1) fun x => k (dbl_Floor_M1_fin d x).1 (dbl_Floor_M1_fin d x).2 := by
  obtain ⟨s1, s7, s9, m0_0, m0_1, m1_0, m1_1⟩ := d
  exact (show _ = dbl_Floor_M1_t s1 s7 m0_1 (fun x => k (dbl_Floor_M1_fin (s1, s7, s9, m0_0, m0_1, m1_0, m1_1) x).1 (dbl_Floor_M1_fin (s1, s7, s9, m0_0, m0_1, m1_0, m1_1) x).2) from by kernel_rfl).trans (dbl_Floor_M1_t_eq s1 s7 m0_1 _)
noncomputable def dbl_Floor_M1_sp : CSpec := fun _ st k => reNorm 0 dbl_Floor_M1_N dbl_Floor_M1_A dbl_Floor_M1_H st fun a m => outOf (dbl_Floor_M1 (dbl_Floor_M1_to a m).1 (dbl_Floor_M1_to a m).2.1 (dbl_Floor_M1_to a m).2.2.2.2.1) fun v => k .normal ⟨[.any, .lit (.int .i64 (dbl_Floor_M1_to a m).1), .any, .any, .any, .any, .any, .lit (.int .i64 (dbl_Floor_M1_to a m).2.1), .ptr 0 0 0, .lit (.bool (dbl_Floor_M1_to a m).2.2.1), .any, .any, .any, .any, .any, .any, .any, .any, .any, .any, .any, .any, .any, .any, .any, .any, .any, .lit (.bool v), .any, .any, .any, .any, .any, .any, .any, .any, .any, .any, .any, .any, .any], [.box [.lit (.int .i64 (dbl_Floor_M1_to a m).2.2.2.2.2.1), .lit (.int .i64 (dbl_Floor_M1_to a m).2.2.2.2.2.2)]]⟩
theorem dbl_Floor_M1_ok : SumOK Try.prog 0 ((codeAt (bodyOf Try.f34) [0, 0, 1, 1, 1]).getD .skip) dbl_Floor_M1_sp := (SumOK.once E5_ok mixed dbl_Floor_h0_ok (show codeAt (bodyOf Try.f34) [0, 0, 1, 1, 1] = some ((codeAt (bodyOf Try.f34) [0, 0, 1, 1, 1]).getD .skip) from by kernel_rfl) (N := dbl_Floor_M1_N) (Nx := dbl_Floor_M1_X) (A := dbl_Floor_M1_A) (Hs := dbl_Floor_M1_H) (toD := dbl_Floor_M1_to) (ofA := dbl_Floor_M1_ofA) (ofH := dbl_Floor_M1_ofH) (fun _ _ => rfl) (fun _ _ => rfl) (M := fun d => dbl_Floor_M1 d.1 d.2.1 d.2.2.2.2.1) (fin := dbl_Floor_M1_fin) 60 dbl_Floor_M1_ev).mono fun α st k r h => by
  refine Eq.trans (congrArg (reNorm 0 dbl_Floor_M1_N dbl_Floor_M1_A dbl_Floor_M1_H st) ?_) h
  funext a m
  exact outOf_congr fun x => rfl
noncomputable def dbl_Floor_M1_h : Hints := dbl_Floor_h0.add [0, 0, 1, 1, 1] dbl_Floor_M1_sp
theorem dbl_Floor_M1_h_ok : dbl_Floor_M1_h.OK Try.prog (bodyOf Try.f34) := dbl_Floor_h0_ok.add (show codeAt (bodyOf Try.f34) [0, 0, 1, 1, 1] = some ((codeAt (bodyOf Try.f34) [0, 0, 1, 1, 1]).getD .skip) from by kernel_rfl) dbl_Floor_M1_ok
def dbl_Floor_M2_A : List SD := [.any, .val (.int .i64), .loc 0 0 0, .any, .any, .any, .any, .val (.int .i64), .loc 1 0 0, .val .bool, .any, .any, .any, .any, .any, .any, .any, .any, .any, .any, .any, .any, .any, .any, .any, .any, .any, .any, .any, .any, .any, .any, .any, .any, .any, .any, .any, .any, .any, .any, .any]
def dbl_Floor_M2_H : List HD := [.box [.val (.int .i64), .val (.int .i64)], .box [.val (.int .i64), .val (.int .i64)]]
abbrev dbl_Floor_M2_D : Type := Int × Int × Bool × Int × Int × Int × Int
def dbl_Floor_M2_to (a : DenS dbl_Floor_M2_A) (m : DenH dbl_Floor_M2_H) : dbl_Floor_M2_D := (a.2.1, a.2.2.2.2.2.2.2.1, a.2.2.2.2.2.2.2.2.2.1, m.1.1, m.1.2.1, m.2.1.1, m.2.1.2.1)
def dbl_Floor_M2_ofA (d : dbl_Floor_M2_D) : DenS dbl_Floor_M2_A := match d with | (s1, s7, s9, m0_0, m0_1, m1_0, m1_1) => ((), s1, (), (), (), (), (), s7, (), s9, (), (), (), (), (), (), (), (), (), (), (), (), (), (), (), (), (), (), (), (), (), (), (), (), (), (), (), (), (), (), (), ())
def dbl_Floor_M2_ofH (d : dbl_Floor_M2_D) : DenH dbl_Floor_M2_H := match d with | (s1, s7, s9, m0_0, m0_1, m1_0, m1_1) => ((m0_0, m0_1, ()), (m1_0, m1_1, ()), ())
def dbl_Floor_M2_N : Norm := (⟨[1, 2, 7, 8, 9], [], []⟩ : Norm)
def dbl_Floor_M2_X : Exit → Norm := fun e => match e with | .normal => ⟨[7, 8, 9], [], []⟩ | _ => ⟨[], [], []⟩
abbrev dbl_Floor_M2_R : Type := (Int × Int × Int)
def dbl_Floor_M2_fin (d : dbl_Floor_M2_D) (v : dbl_Floor_M2_R) : Exit × St := (.normal, ⟨[.any, .any, .any, .any, .any, .any, .any, .lit (.int .i64 v.1), .ptr 0 0 0, .lit (.bool d.2.2.1), .any, .any, .any, .any, .any, .any, .any, .any, .any, .any, .any, .any, .any, .any, .any, .any, .any, .any, .any, .any, .any, .any, .any, .any, .any, .any, .any, .any, .any, .any, .any], [.box [.lit (.int .i64 v.2.1), .lit (.int .i64 v.2.2)]]⟩)
noncomputable def dbl_Floor_M2_t {γ : Type} (s1 : Int) (s7 : Int) (m0_1 : Int) (m1_0 : Int) (m1_1 : Int) (k : dbl_Floor_M2_R → Option γ) : Option γ := outOf (dbl_Floor_M1 s1 s7 m0_1) fun (x1 : Bool) => cond x1 (outOf (dbl_Add m1_0 m1_1 (-1 : Int) (-1 : Int)) fun (x2 : (Int × Int)) => k (IntKind.wrap IntKind.i64 (s7 + s1), Prod.fst x2, Prod.snd x2)) (k (s7, m1_0, m1_1))
noncomputable def dbl_Floor_M2 (s1 : Int) (s7 : Int) (m0_1 : Int) (m1_0 : Int) (m1_1 : Int) : Option dbl_Floor_M2_R := dbl_Floor_M2_t s1 s7 m0_1 m1_0 m1_1 some
theorem dbl_Floor_M2_t_eq {γ : Type} (s1 : Int) (s7 : Int) (m0_1 : Int) (m1_0 : Int) (m1_1 : Int) (k : dbl_Floor_M2_R → Option γ) : dbl_Floor_M2_t s1 s7 m0_1 m1_0 m1_1 k = outOf (dbl_Floor_M2 s1 s7 m0_1 m1_0 m1_1) k := by
  delta dbl_Floor_M2 dbl_Floor_M2_t; exact (Tr.bd fun x1 => (Tr.nd (Tr.bd fun x2 => Tr.lf) Tr.lf))
theorem dbl_Floor_M2_ev (α : Type) (d : dbl_Floor_M2_D) (k : Exit → St → Option α) : ev Try.prog E5 dbl_Floor_M1_h 60 [0, 1, 1, 1] ((codeAt (bodyOf Try.f34) [0, 1, 1, 1]).getD .skip) ⟨mkS dbl_Floor_M2_A (dbl_Floor_M2_ofA d), mkH dbl_Floor_M2_H (dbl_Floor_M2_ofH d)⟩ (exitN 0 dbl_Floor_M2_X k) = outOf (dbl_Floor_M2 d.1 d.2.1 d.2.2.2.2.1 d.2.2.2.2.2.1 d.2.2.2.2.2.2) fun x => k (dbl_Floor_M2_fin d x).1 (dbl_Floor_M2_fin d x).2 := by
  obtain ⟨s1, s7, s9, m0_0, m0_1, m1_0, m1_1⟩ := d
  exact (show _ = dbl_Floor_M2_t s1 s7 m0_1 m1_0 m1_1 (fun x => k (dbl_Floor_M2_fin (s1, s7, s9, m0_0, m0_1, m1_0, m1_1) x).1 (dbl_Floor_M2_fin (s1, s7, s9, m0_0, m0_1, m1_0, m1_1) x).2) from by kernel_rfl).trans (dbl_Floor_M2_t_eq s1 s7 m0_1 m1_0 m1_1 _)
noncomputable def dbl_Floor_M2_sp : CSpec := fun _ st k => reNorm 0 dbl_Floor_M2_N dbl_Floor_M2_A dbl_Floor_M2_H st fun a m => outOf (dbl_Floor_M2 (dbl_Floor_M2_to a m).1 (dbl_Floor_M2_to a m).2.1 (dbl_Floor_M2_to a m).2.2.2.2.1 (dbl_Floor_M2_to a m).2.2.2.2.2.1 (dbl_Floor_M2_to a m).2.2.2.2.2.2) fun v => k .normal ⟨[.any, .any, .any, .any, .any, .any, .any, .lit (.int .i64 v.1), .ptr 0 0 0, .lit (.bool (dbl_Floor_M2_to a m).2.2.1), .any, .any, .any, .any, .any, .any, .any, .any, .any, .any, .any, .any, .any, .any, .any, .any, .any, .any, .any, .any, .any, .any, .any, .any, .any, .any, .any, .any, .any, .any, .any], [.box [.lit (.int .i64 v.2.1), .lit (.int .i64 v.2.2)]]⟩
theorem dbl_Floor_M2_ok : SumOK Try.prog 0 ((codeAt (bodyOf Try.f34) [0, 1, 1, 1]).getD .skip) dbl_Floor_M2_sp := (SumOK.once E5_ok mixed dbl_Floor_M1_h_ok (show codeAt (bodyOf Try.f34) [0, 1, 1, 1] = some ((codeAt (bodyOf Try.f34) [0, 1, 1, 1]).getD .skip) from by kernel_rfl) (N := dbl_Floor_M2_N) (Nx := dbl_Floor_M2_X) (A := dbl_Floor_M2_A) (Hs := dbl_Floor_M2_H) (toD := dbl_Floor_M2_to) (ofA := dbl_Floor_M2_ofA) (ofH := dbl_Floor_M2_ofH) (fun _ _ => rfl) (fun _ _ => rfl) (M := fun d => dbl_Floor_M2 d.1 d.2.1 d.2.2.2.2.1 d.2.2.2.2.2.1 d.2.2.2.2.2.2) (fin := dbl_Floor_M2_fin) 60 dbl_Floor_M2_ev).mono fun α st k r h => by
  refine Eq.trans (congrArg (reNorm 0 dbl_Floor_M2_N dbl_Floor_M2_A dbl_Floor_M2_H st) ?_) h
  funext a m
  exact outOf_congr fun x => rfl
noncomputable def dbl_Floor_M2_h : Hints := dbl_Floor_M1_h.add [0, 1, 1, 1] dbl_Floor_M2_sp
theorem dbl_Floor_M2_h_ok : dbl_Floor_M2_h.OK Try.prog (bodyOf Try.f34) := dbl_Floor_M1_h_ok.add (show codeAt (bodyOf Try.f34) [0, 1, 1, 1] = some ((codeAt (bodyOf Try.f34) [0, 1, 1, 1]).getD .skip) from by kernel_rfl) dbl_Floor_M2_ok
abbrev dbl_Floor_R : Type := (Int × Int × Int)
noncomputable def dbl_Floor_t {γ : Type} (a0_0 : Int) (a0_1 : Int) (a1 : Int) (k : dbl_Floor_R → Option γ) : Option γ := cond (a1 == (0 : Int)) (k ((0 : Int), (0 : Int), (-10 : Int))) (outOf (dbl_split a0_0 a0_1 a1) fun (x3 : (Int × (Int × (Int × Bool)))) => outOf (dbl_Floor_M2 a1 (Prod.fst x3) a0_1 (Prod.fst (Prod.snd x3)) (Prod.fst (Prod.snd (Prod.snd x3)))) fun (x4 : (Int × (Int × Int))) => outOf (dbl_fits (Prod.fst x4) (Prod.fst (Prod.snd x4)) (Prod.snd (Prod.snd x4)) (Prod.snd (Prod.snd (Prod.snd x3)))) fun (x5 : (Int × (Int × Int))) => k (Prod.fst x5, Prod.fst (Prod.snd x5), Prod.snd (Prod.snd x5)))
noncomputable def dbl_Floor (a0_0 : Int) (a0_1 : Int) (a1 : Int) : Option dbl_Floor_R := dbl_Floor_t a0_0 a0_1 a1 some
theorem dbl_Floor_t_eq {γ : Type} (a0_0 : Int) (a0_1 : Int) (a1 : Int) (k : dbl_Floor_R → Option γ) : dbl_Floor_t a0_0 a0_1 a1 k = outOf (dbl_Floor a0_0 a0_1 a1) k := by
  delta dbl_Floor dbl_Floor_t; exact (Tr.nd Tr.lf (Tr.bd fun x3 => (Tr.bd fun x4 => (Tr.bd fun x5 => Tr.lf))))
noncomputable def dbl_Floor_sp : TX.Spec := specD [.agg (.pair (.int .i64) (.int .i64)), .val (.int .i64)] [] fun _ a m k => match a, m with | ⟨⟨a0_0, a0_1⟩, a1, _⟩, _ => outOf (dbl_Floor a0_0 a0_1 a1) fun v => k (.tup [.lit (.int .i64 v.1), .lit (.int .i64 v.2.1), .lit (.int .i64 v.2.2)]) []
theorem dbl_Floor_ev {α : Type} (a0_0 : Int) (a0_1 : Int) (a1 : Int) (k : Kont α) : evFun Try.prog E5 (dbl_Floor_M2_h) false Try.f34 (bodyOf Try.f34) 60 (mkS [.agg (.pair (.int .i64) (.int .i64)), .val (.int .i64)] ((a0_0, a0_1), a1, ())) (mkH [] ()) k = outOf (dbl_Floor a0_0 a0_1 a1) fun v => k (.tup [.lit (.int .i64 v.1), .lit (.int .i64 v.2.1), .lit (.int .i64 v.2.2)]) [] :=
  (show _ = dbl_Floor_t a0_0 a0_1 a1 (fun v => k (.tup [.lit (.int .i64 v.1), .lit (.int .i64 v.2.1), .lit (.int .i64 v.2.2)]) []) from by kernel_rfl).trans (dbl_Floor_t_eq a0_0 a0_1 a1 _)
theorem dbl_Floor_good : TX.Good Try.prog 34 dbl_Floor_sp := good_form E5_ok mixed Try.func34 (body_of rfl) (by kernel_rfl) false fun α a m k r h => by
  obtain ⟨⟨a0_0, a0_1⟩, a1, _⟩ := a; obtain _ := m
  exact ⟨dbl_Floor_M2_h, 60, dbl_Floor_M2_h_ok, rfl, (dbl_Floor_ev a0_0 a0_1 a1 k).trans h⟩
noncomputable def E6 : Env := E5.add 24 true dbl_Symm_sp |>.add 34 true dbl_Floor_sp
theorem E6_ok : E6.OK Try.prog := (E5_ok.add_ok dbl_Symm_good).add_ok dbl_Floor_good
/-! f40 tenterhook/dbl.Scale -/
def dbl_Scale_h0 : Hints := Hints.nil 0
theorem dbl_Scale_h0_ok : dbl_Scale_h0.OK Try.prog (bodyOf Try.f40) := Hints.nil_ok
abbrev dbl_Scale_R : Type := (Int × Int × Int)
noncomputable def dbl_Scale_t {γ : Type} (a0 : Int) (a1 : Int) (a2 : Int) (k : dbl_Scale_R → Option γ) : Option γ := outOf (dbl_Mul a0 a1) fun (x1 : (Int × Int)) => outOf (dbl_Floor (Prod.fst x1) (Prod.snd x1) a2) fun (x2 : (Int × (Int × Int))) => k (Prod.fst x2, Prod.fst (Prod.snd x2), Prod.snd (Prod.snd x2))
noncomputable def dbl_Scale (a0 : Int) (a1 : Int) (a2 : Int) : Option dbl_Scale_R := dbl_Scale_t a0 a1 a2 some
theorem dbl_Scale_t_eq {γ : Type} (a0 : Int) (a1 : Int) (a2 : Int) (k : dbl_Scale_R → Option γ) : dbl_Scale_t a0 a1 a2 k = outOf (dbl_Scale a0 a1 a2) k := by
  delta dbl_Scale dbl_Scale_t; exact (Tr.bd fun x1 => (Tr.bd fun x2 => Tr.lf))
noncomputable def dbl_Scale_sp : TX.Spec := specD [.val (.int .i64), .val (.int .i64), .val (.int .i64)] [] fun _ a m k => match a, m with | ⟨a0, a1, a2, _⟩, _ => outOf (dbl_Scale a0 a1 a2) fun v => k (.tup [.lit (.int .i64 v.1), .lit (.int .i64 v.2.1), .lit (.int .i64 v.2.2)]) []
theorem dbl_Scale_ev {α : Type} (a0 : Int) (a1 : Int) (a2 : Int) (k : Kont α) : evFun Try.prog E6 (dbl_Scale_h0) false Try.f40 (bodyOf Try.f40) 60 (mkS [.val (.int .i64), .val (.int .i64), .val (.int .i64)] (a0, a1, a2, ())) (mkH [] ()) k = outOf (dbl_Scale a0 a1 a2) fun v => k (.tup [.lit (.int .i64 v.1), .lit (.int .i64 v.2.1), .lit (.int .i64 v.2.2)]) [] :=
  (show _ = dbl_Scale_t a0 a1 a2 (fun v => k (.tup [.lit (.int .i64 v.1), .lit (.int .i64 v.2.1), .lit (.int .i64 v.2.2)]) []) from by kernel_rfl).trans (dbl_Scale_t_eq a0 a1 a2 _)
theorem dbl_Scale_good : TX.Good Try.prog 40 dbl_Scale_sp := good_form E6_ok mixed Try.func40 (body_of rfl) (by kernel_rfl) false fun α a m k r h => by
  obtain ⟨a0, a1, a2, _⟩ := a; obtain _ := m
  exact ⟨dbl_Scale_h0, 60, dbl_Scale_h0_ok, rfl, (dbl_Scale_ev a0 a1 a2 k).trans h⟩
noncomputable def E7 : Env := E6.add 40 true dbl_Scale_sp
theorem E7_ok : E7.OK Try.prog := E6_ok.add_ok dbl_Scale_good
end Go.Proofs.Dbl
