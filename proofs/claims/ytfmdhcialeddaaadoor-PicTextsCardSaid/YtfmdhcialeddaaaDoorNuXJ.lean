import Derived.Test.YtfmdhcialeddaaaDoorNuXI
namespace Go.Proofs.Dbl
open Go Go.TX Go.Proofs
set_option maxRecDepth 100000
set_option linter.unusedVariables false
set_option maxHeartbeats 0
def pic_area_h0 : Hints := Hints.nil 0
theorem pic_area_h0_ok : pic_area_h0.OK Tryd.prog (bodyOf Tryd.f70) := Hints.nil_ok
abbrev pic_area_R : Type := (Bool)
noncomputable def pic_area_t {γ : Type} (a0 : Int) (k : pic_area_R → Option γ) : Option γ := cond (decide (a0 ≥ (0 : Int))) (k (decide (a0 ≤ (5120 : Int)))) (k (false))
noncomputable def pic_area (a0 : Int) : Option pic_area_R := pic_area_t a0 some
theorem pic_area_t_eq {γ : Type} (a0 : Int) (k : pic_area_R → Option γ) : pic_area_t a0 k = outOf (pic_area a0) k := by
  delta pic_area pic_area_t; exact (Tr.nd Tr.lf Tr.lf)
noncomputable def pic_area_sp : TX.Spec := specD [.val (.int .i64)] [] fun _ a m k => match a, m with | ⟨a0, _⟩, _ => outOf (pic_area a0) fun v => k (.lit (.bool v)) []
theorem pic_area_ev {α : Type} (a0 : Int) (k : Kont α) : evFun Tryd.prog NrIE6 (pic_area_h0) false Tryd.f70 (bodyOf Tryd.f70) 60 (mkS [.val (.int .i64)] (a0, ())) (mkH [] ()) k = outOf (pic_area a0) fun v => k (.lit (.bool v)) [] :=
  (show _ = pic_area_t a0 (fun v => k (.lit (.bool v)) []) from by kernel_rfl).trans (pic_area_t_eq a0 _)
theorem pic_area_good : TX.Good Tryd.prog 70 pic_area_sp := good_form NrIE6_ok mixed Tryd.func70 (body_of rfl) (by kernel_rfl) false fun α a m k r h => by
  obtain ⟨a0, _⟩ := a; obtain _ := m
  exact ⟨pic_area_h0, 60, pic_area_h0_ok, rfl, (pic_area_ev a0 k).trans h⟩
def pic_end_h0 : Hints := Hints.nil 0
theorem pic_end_h0_ok : pic_end_h0.OK Tryd.prog (bodyOf Tryd.f65) := Hints.nil_ok
noncomputable def pic_end (a0 : Int) : Int := (IntKind.wrap IntKind.i64 (a0 + (128 : Int)))
noncomputable def pic_end_sp : TX.Spec := specD [.val (.int .i64)] [] fun _ a m k => match a, m with | ⟨a0, _⟩, _ => k (.lit (.int .i64 (pic_end a0))) []
theorem pic_end_ev {α : Type} (a0 : Int) (k : Kont α) : evFun Tryd.prog NrIE6 (pic_end_h0) false Tryd.f65 (bodyOf Tryd.f65) 60 (mkS [.val (.int .i64)] (a0, ())) (mkH [] ()) k = k (.lit (.int .i64 (pic_end a0))) [] :=
  by kernel_rfl
theorem pic_end_good : TX.Good Tryd.prog 65 pic_end_sp := good_form NrIE6_ok mixed Tryd.func65 (body_of rfl) (by kernel_rfl) false fun α a m k r h => by
  obtain ⟨a0, _⟩ := a; obtain _ := m
  exact ⟨pic_end_h0, 60, pic_end_h0_ok, rfl, (pic_end_ev a0 k).trans h⟩
def pic_divide_h0 : Hints := Hints.nil 0
theorem pic_divide_h0_ok : pic_divide_h0.OK Tryd.prog (bodyOf Tryd.f69) := Hints.nil_ok
abbrev pic_divide_R : Type := (Int × Int × Int)
noncomputable def pic_divide_t {γ : Type} (a0_0 : Int) (a0_1 : Int) (a1 : Int) (k : pic_divide_R → Option γ) : Option γ := cond (decide (IntKind.wrap IntKind.u64 a1 = (0 : Int))) (none) (outOf (div64 (Int.tmod (IntKind.wrap IntKind.u64 a0_1) (IntKind.wrap IntKind.u64 a1)) (IntKind.wrap IntKind.u64 a0_0) (IntKind.wrap IntKind.u64 a1)) fun (x1 : (Int × Int)) => cond (decide (IntKind.wrap IntKind.u64 a1 = (0 : Int))) (none) (k (IntKind.wrap IntKind.i64 (Prod.fst x1), IntKind.wrap IntKind.i64 (IntKind.wrap IntKind.u64 (Int.tdiv (IntKind.wrap IntKind.u64 a0_1) (IntKind.wrap IntKind.u64 a1))), IntKind.wrap IntKind.i64 (Prod.snd x1))))
noncomputable def pic_divide (a0_0 : Int) (a0_1 : Int) (a1 : Int) : Option pic_divide_R := pic_divide_t a0_0 a0_1 a1 some
theorem pic_divide_t_eq {γ : Type} (a0_0 : Int) (a0_1 : Int) (a1 : Int) (k : pic_divide_R → Option γ) : pic_divide_t a0_0 a0_1 a1 k = outOf (pic_divide a0_0 a0_1 a1) k := by
  delta pic_divide pic_divide_t; exact (Tr.nd Tr.no (Tr.bd fun x1 => (Tr.nd Tr.no Tr.lf)))
noncomputable def pic_divide_sp : TX.Spec := specD [.agg (.pair (.int .i64) (.int .i64)), .val (.int .i64)] [] fun _ a m k => match a, m with | ⟨⟨a0_0, a0_1⟩, a1, _⟩, _ => outOf (pic_divide a0_0 a0_1 a1) fun v => k (.tup [.agg [.lit (.int .i64 v.1), .lit (.int .i64 v.2.1)], .lit (.int .i64 v.2.2)]) []
theorem pic_divide_ev {α : Type} (a0_0 : Int) (a0_1 : Int) (a1 : Int) (k : Kont α) : evFun Tryd.prog NrIE6 (pic_divide_h0) false Tryd.f69 (bodyOf Tryd.f69) 60 (mkS [.agg (.pair (.int .i64) (.int .i64)), .val (.int .i64)] ((a0_0, a0_1), a1, ())) (mkH [] ()) k = outOf (pic_divide a0_0 a0_1 a1) fun v => k (.tup [.agg [.lit (.int .i64 v.1), .lit (.int .i64 v.2.1)], .lit (.int .i64 v.2.2)]) [] :=
  (show _ = pic_divide_t a0_0 a0_1 a1 (fun v => k (.tup [.agg [.lit (.int .i64 v.1), .lit (.int .i64 v.2.1)], .lit (.int .i64 v.2.2)]) []) from by kernel_rfl).trans (pic_divide_t_eq a0_0 a0_1 a1 _)
theorem pic_divide_good : TX.Good Tryd.prog 69 pic_divide_sp := good_form NrIE6_ok mixed Tryd.func69 (body_of rfl) (by kernel_rfl) false fun α a m k r h => by
  obtain ⟨⟨a0_0, a0_1⟩, a1, _⟩ := a; obtain _ := m
  exact ⟨pic_divide_h0, 60, pic_divide_h0_ok, rfl, (pic_divide_ev a0_0 a0_1 a1 k).trans h⟩
noncomputable def NrJE1 : Env := NrIE6.add 70 true pic_area_sp |>.add 65 true pic_end_sp |>.add 69 true pic_divide_sp
theorem NrJE1_ok : NrJE1.OK Tryd.prog := (((NrIE6_ok).add_ok pic_area_good).add_ok pic_end_good).add_ok pic_divide_good
def pic_pictured_h0 : Hints := Hints.nil 0
theorem pic_pictured_h0_ok : pic_pictured_h0.OK Tryd.prog (bodyOf Tryd.f66) := Hints.nil_ok
abbrev pic_pictured_R : Type := (Bool)
noncomputable def pic_pictured_t {γ : Type} (a0 : Int) (a1 : Int) (k : pic_pictured_R → Option γ) : Option γ := cond (decide (a1 ≥ IntKind.wrap IntKind.i64 (a0 + (32 : Int)))) (k (decide (a1 < pic_end a0))) (k (false))
noncomputable def pic_pictured (a0 : Int) (a1 : Int) : Option pic_pictured_R := pic_pictured_t a0 a1 some
theorem pic_pictured_t_eq {γ : Type} (a0 : Int) (a1 : Int) (k : pic_pictured_R → Option γ) : pic_pictured_t a0 a1 k = outOf (pic_pictured a0 a1) k := by
  delta pic_pictured pic_pictured_t; exact (Tr.nd Tr.lf Tr.lf)
noncomputable def pic_pictured_sp : TX.Spec := specD [.val (.int .i64), .val (.int .i64)] [] fun _ a m k => match a, m with | ⟨a0, a1, _⟩, _ => outOf (pic_pictured a0 a1) fun v => k (.lit (.bool v)) []
theorem pic_pictured_ev {α : Type} (a0 : Int) (a1 : Int) (k : Kont α) : evFun Tryd.prog NrJE1 (pic_pictured_h0) false Tryd.f66 (bodyOf Tryd.f66) 60 (mkS [.val (.int .i64), .val (.int .i64)] (a0, a1, ())) (mkH [] ()) k = outOf (pic_pictured a0 a1) fun v => k (.lit (.bool v)) [] :=
  (show _ = pic_pictured_t a0 a1 (fun v => k (.lit (.bool v)) []) from by kernel_rfl).trans (pic_pictured_t_eq a0 a1 _)
theorem pic_pictured_good : TX.Good Tryd.prog 66 pic_pictured_sp := good_form NrJE1_ok mixed Tryd.func66 (body_of rfl) (by kernel_rfl) false fun α a m k r h => by
  obtain ⟨a0, a1, _⟩ := a; obtain _ := m
  exact ⟨pic_pictured_h0, 60, pic_pictured_h0_ok, rfl, (pic_pictured_ev a0 a1 k).trans h⟩
def pic_held_h0 : Hints := Hints.nil 0
theorem pic_held_h0_ok : pic_held_h0.OK Tryd.prog (bodyOf Tryd.f64) := Hints.nil_ok
abbrev pic_held_R : Type := (Int × Int)
noncomputable def pic_held_t {γ : Type} (a0 : (List Int)) (a1 : Int) (k : pic_held_R → Option γ) : Option γ := outOf (pic_area a1) fun (x1 : Bool) => cond (!x1) (k ((0 : Int), (-9 : Int))) (outOf (mem_Get a0 (IntKind.wrap IntKind.i64 (a1 + (8 : Int)))) fun (x2 : (Int × Int)) => k (Prod.fst x2, Prod.snd x2))
noncomputable def pic_held (a0 : (List Int)) (a1 : Int) : Option pic_held_R := pic_held_t a0 a1 some
theorem pic_held_t_eq {γ : Type} (a0 : (List Int)) (a1 : Int) (k : pic_held_R → Option γ) : pic_held_t a0 a1 k = outOf (pic_held a0 a1) k := by
  delta pic_held pic_held_t; exact (Tr.bd fun x1 => (Tr.nd Tr.lf (Tr.bd fun x2 => Tr.lf)))
noncomputable def pic_held_sp : TX.Spec := specD [.val (.sl (.int .u8)), .val (.int .i64)] [] fun _ a m k => match a, m with | ⟨a0, a1, _⟩, _ => outOf (pic_held a0 a1) fun v => k (.tup [.lit (.int .i64 v.1), .lit (.int .i64 v.2)]) []
theorem pic_held_ev {α : Type} (a0 : (List Int)) (a1 : Int) (k : Kont α) : evFun Tryd.prog NrJE1 (pic_held_h0) false Tryd.f64 (bodyOf Tryd.f64) 60 (mkS [.val (.sl (.int .u8)), .val (.int .i64)] (a0, a1, ())) (mkH [] ()) k = outOf (pic_held a0 a1) fun v => k (.tup [.lit (.int .i64 v.1), .lit (.int .i64 v.2)]) [] :=
  (show _ = pic_held_t a0 a1 (fun v => k (.tup [.lit (.int .i64 v.1), .lit (.int .i64 v.2)]) []) from by kernel_rfl).trans (pic_held_t_eq a0 a1 _)
theorem pic_held_good : TX.Good Tryd.prog 64 pic_held_sp := good_form NrJE1_ok mixed Tryd.func64 (body_of rfl) (by kernel_rfl) false fun α a m k r h => by
  obtain ⟨a0, a1, _⟩ := a; obtain _ := m
  exact ⟨pic_held_h0, 60, pic_held_h0_ok, rfl, (pic_held_ev a0 a1 k).trans h⟩
def pic_Base_h0 : Hints := Hints.nil 0
theorem pic_Base_h0_ok : pic_Base_h0.OK Tryd.prog (bodyOf Tryd.f44) := Hints.nil_ok
abbrev pic_Base_R : Type := (Int × Int)
noncomputable def pic_Base_t {γ : Type} (a0 : (List Int)) (a1 : Int) (k : pic_Base_R → Option γ) : Option γ := outOf (pic_area a1) fun (x1 : Bool) => cond (!x1) (k ((0 : Int), (-9 : Int))) (outOf (mem_Get a0 (IntKind.wrap IntKind.i64 (a1 + (0 : Int)))) fun (x2 : (Int × Int)) => cond (Prod.snd x2 != (0 : Int)) (k ((0 : Int), Prod.snd x2)) (cond (decide (Prod.fst x2 < (2 : Int))) (k ((0 : Int), (-24 : Int))) (cond (decide (Prod.fst x2 > (36 : Int))) (k ((0 : Int), (-24 : Int))) (k (Prod.fst x2, (0 : Int))))))
noncomputable def pic_Base (a0 : (List Int)) (a1 : Int) : Option pic_Base_R := pic_Base_t a0 a1 some
theorem pic_Base_t_eq {γ : Type} (a0 : (List Int)) (a1 : Int) (k : pic_Base_R → Option γ) : pic_Base_t a0 a1 k = outOf (pic_Base a0 a1) k := by
  delta pic_Base pic_Base_t; exact (Tr.bd fun x1 => (Tr.nd Tr.lf (Tr.bd fun x2 => (Tr.nd Tr.lf (Tr.nd Tr.lf (Tr.nd Tr.lf Tr.lf))))))
noncomputable def pic_Base_sp : TX.Spec := specD [.val (.sl (.int .u8)), .val (.int .i64)] [] fun _ a m k => match a, m with | ⟨a0, a1, _⟩, _ => outOf (pic_Base a0 a1) fun v => k (.tup [.lit (.int .i64 v.1), .lit (.int .i64 v.2)]) []
theorem pic_Base_ev {α : Type} (a0 : (List Int)) (a1 : Int) (k : Kont α) : evFun Tryd.prog NrJE1 (pic_Base_h0) false Tryd.f44 (bodyOf Tryd.f44) 60 (mkS [.val (.sl (.int .u8)), .val (.int .i64)] (a0, a1, ())) (mkH [] ()) k = outOf (pic_Base a0 a1) fun v => k (.tup [.lit (.int .i64 v.1), .lit (.int .i64 v.2)]) [] :=
  (show _ = pic_Base_t a0 a1 (fun v => k (.tup [.lit (.int .i64 v.1), .lit (.int .i64 v.2)]) []) from by kernel_rfl).trans (pic_Base_t_eq a0 a1 _)
theorem pic_Base_good : TX.Good Tryd.prog 44 pic_Base_sp := good_form NrJE1_ok mixed Tryd.func44 (body_of rfl) (by kernel_rfl) false fun α a m k r h => by
  obtain ⟨a0, a1, _⟩ := a; obtain _ := m
  exact ⟨pic_Base_h0, 60, pic_Base_h0_ok, rfl, (pic_Base_ev a0 a1 k).trans h⟩
def pic_Begin_h0 : Hints := Hints.nil 0
theorem pic_Begin_h0_ok : pic_Begin_h0.OK Tryd.prog (bodyOf Tryd.f36) := Hints.nil_ok
abbrev pic_Begin_R : Type := ((List Int) × Int)
noncomputable def pic_Begin_t {γ : Type} (a0 : (List Int)) (a1 : Int) (k : pic_Begin_R → Option γ) : Option γ := outOf (pic_area a1) fun (x1 : Bool) => cond (!x1) (k (a0, (-9 : Int))) (outOf (mem_Put a0 (IntKind.wrap IntKind.i64 (a1 + (8 : Int))) (pic_end a1)) fun (x2 : ((List Int) × Int)) => k (Prod.fst x2, Prod.snd x2))
noncomputable def pic_Begin (a0 : (List Int)) (a1 : Int) : Option pic_Begin_R := pic_Begin_t a0 a1 some
theorem pic_Begin_t_eq {γ : Type} (a0 : (List Int)) (a1 : Int) (k : pic_Begin_R → Option γ) : pic_Begin_t a0 a1 k = outOf (pic_Begin a0 a1) k := by
  delta pic_Begin pic_Begin_t; exact (Tr.bd fun x1 => (Tr.nd Tr.lf (Tr.bd fun x2 => Tr.lf)))
noncomputable def pic_Begin_sp : TX.Spec := specD [.val (.sl (.int .u8)), .val (.int .i64)] [] fun _ a m k => match a, m with | ⟨a0, a1, _⟩, _ => outOf (pic_Begin a0 a1) fun v => k (.tup [.sl (.int .u8) v.1 false, .lit (.int .i64 v.2)]) []
theorem pic_Begin_ev {α : Type} (a0 : (List Int)) (a1 : Int) (k : Kont α) : evFun Tryd.prog NrJE1 (pic_Begin_h0) false Tryd.f36 (bodyOf Tryd.f36) 60 (mkS [.val (.sl (.int .u8)), .val (.int .i64)] (a0, a1, ())) (mkH [] ()) k = outOf (pic_Begin a0 a1) fun v => k (.tup [.sl (.int .u8) v.1 false, .lit (.int .i64 v.2)]) [] :=
  (show _ = pic_Begin_t a0 a1 (fun v => k (.tup [.sl (.int .u8) v.1 false, .lit (.int .i64 v.2)]) []) from by kernel_rfl).trans (pic_Begin_t_eq a0 a1 _)
theorem pic_Begin_good : TX.Good Tryd.prog 36 pic_Begin_sp := good_form NrJE1_ok mixed Tryd.func36 (body_of rfl) (by kernel_rfl) false fun α a m k r h => by
  obtain ⟨a0, a1, _⟩ := a; obtain _ := m
  exact ⟨pic_Begin_h0, 60, pic_Begin_h0_ok, rfl, (pic_Begin_ev a0 a1 k).trans h⟩
noncomputable def NrJE2 : Env := NrJE1.add 66 true pic_pictured_sp |>.add 64 true pic_held_sp |>.add 44 true pic_Base_sp |>.add 36 true pic_Begin_sp
theorem NrJE2_ok : NrJE2.OK Tryd.prog := ((((NrJE1_ok).add_ok pic_pictured_good).add_ok pic_held_good).add_ok pic_Base_good).add_ok pic_Begin_good
def pic_Hold_h0 : Hints := Hints.nil 0
theorem pic_Hold_h0_ok : pic_Hold_h0.OK Tryd.prog (bodyOf Tryd.f31) := Hints.nil_ok
def pic_Hold_M1_A : List SD := [.val (.sl (.int .u8)), .val (.int .i64), .val (.int .i64), .any, .any, .any, .any, .any, .val (.int .i64), .val (.int .i64), .any, .any, .any, .any, .any, .any, .any, .any, .any, .any, .any, .any, .any, .any, .any, .any, .any, .any, .any, .any, .any, .any, .any, .any, .any, .any, .any, .any, .any, .any, .any, .any, .any, .any, .any, .any, .any, .any, .any, .any, .any, .any, .any, .any, .any, .any, .any, .any, .any, .any, .any]
def pic_Hold_M1_H : List HD := []
abbrev pic_Hold_M1_D : Type := (List Int) × Int × Int × Int × Int
def pic_Hold_M1_to (a : DenS pic_Hold_M1_A) (m : DenH pic_Hold_M1_H) : pic_Hold_M1_D := (a.1, a.2.1, a.2.2.1, a.2.2.2.2.2.2.2.2.1, a.2.2.2.2.2.2.2.2.2.1)
def pic_Hold_M1_ofA (d : pic_Hold_M1_D) : DenS pic_Hold_M1_A := match d with | (s0, s1, s2, s8, s9) => (s0, s1, s2, (), (), (), (), (), s8, s9, (), (), (), (), (), (), (), (), (), (), (), (), (), (), (), (), (), (), (), (), (), (), (), (), (), (), (), (), (), (), (), (), (), (), (), (), (), (), (), (), (), (), (), (), (), (), (), (), (), (), (), ())
def pic_Hold_M1_ofH (d : pic_Hold_M1_D) : DenH pic_Hold_M1_H := match d with | (s0, s1, s2, s8, s9) => ()
def pic_Hold_M1_N : Norm := (⟨[0, 1, 2, 8, 9], [], []⟩ : Go.TX.Norm)
def pic_Hold_M1_X : Exit → Norm := fun e => match e with | .normal => ⟨[0, 1, 2, 8], [], []⟩ | .ret => ⟨[6, 7], [], []⟩ | _ => ⟨[], [], []⟩
abbrev pic_Hold_M1_R : Type := ((Int) ⊕ (Unit))
def pic_Hold_M1_fin (d : pic_Hold_M1_D) (v : pic_Hold_M1_R) : Exit × St := sumOf v (fun v => (.ret, ⟨[.any, .any, .any, .any, .any, .any, .sl (.int .u8) d.1 false, .lit (.int .i64 v), .any, .any, .any, .any, .any, .any, .any, .any, .any, .any, .any, .any, .any, .any, .any, .any, .any, .any, .any, .any, .any, .any, .any, .any, .any, .any, .any, .any, .any, .any, .any, .any, .any, .any, .any, .any, .any, .any, .any, .any, .any, .any, .any, .any, .any, .any, .any, .any, .any, .any, .any, .any, .any], []⟩)) (fun v => (.normal, ⟨[.sl (.int .u8) d.1 false, .lit (.int .i64 d.2.1), .lit (.int .i64 d.2.2.1), .any, .any, .any, .any, .any, .lit (.int .i64 d.2.2.2.1), .any, .any, .any, .any, .any, .any, .any, .any, .any, .any, .any, .any, .any, .any, .any, .any, .any, .any, .any, .any, .any, .any, .any, .any, .any, .any, .any, .any, .any, .any, .any, .any, .any, .any, .any, .any, .any, .any, .any, .any, .any, .any, .any, .any, .any, .any, .any, .any, .any, .any, .any, .any], []⟩))
noncomputable def pic_Hold_M1_t {γ : Type} (s1 : Int) (s8 : Int) (s9 : Int) (k : pic_Hold_M1_R → Option γ) : Option γ := cond (s9 != (0 : Int)) (k (.inl (s9))) (cond (decide (s8 > pic_end s1)) (k (.inl ((-17 : Int)))) (outOf (pic_pictured s1 (IntKind.wrap IntKind.i64 (s8 - (1 : Int)))) fun (x3 : Bool) => cond (!x3) (k (.inl ((-17 : Int)))) (k (.inr ()))))
noncomputable def pic_Hold_M1 (s1 : Int) (s8 : Int) (s9 : Int) : Option pic_Hold_M1_R := pic_Hold_M1_t s1 s8 s9 some
theorem pic_Hold_M1_t_eq {γ : Type} (s1 : Int) (s8 : Int) (s9 : Int) (k : pic_Hold_M1_R → Option γ) : pic_Hold_M1_t s1 s8 s9 k = outOf (pic_Hold_M1 s1 s8 s9) k := by
  delta pic_Hold_M1 pic_Hold_M1_t; exact (Tr.nd Tr.lf (Tr.nd Tr.lf (Tr.bd fun x3 => (Tr.nd Tr.lf Tr.lf))))
theorem pic_Hold_M1_ev (α : Type) (d : pic_Hold_M1_D) (k : Exit → St → Option α) : ev Tryd.prog NrJE2 pic_Hold_h0 60 [0, 1, 1] ((codeAt (bodyOf Tryd.f31) [0, 1, 1]).getD .skip) ⟨mkS pic_Hold_M1_A (pic_Hold_M1_ofA d), mkH pic_Hold_M1_H (pic_Hold_M1_ofH d)⟩ (exitN 0 pic_Hold_M1_X k) = outOf (pic_Hold_M1 d.2.1 d.2.2.2.1 d.2.2.2.2) fun x => k (pic_Hold_M1_fin d x).1 (pic_Hold_M1_fin d x).2 := by
  obtain ⟨s0, s1, s2, s8, s9⟩ := d
  exact (show _ = pic_Hold_M1_t s1 s8 s9 (fun x => k (pic_Hold_M1_fin (s0, s1, s2, s8, s9) x).1 (pic_Hold_M1_fin (s0, s1, s2, s8, s9) x).2) from by kernel_rfl).trans (pic_Hold_M1_t_eq s1 s8 s9 _)
noncomputable def pic_Hold_M1_sp : CSpec := fun _ st k => reNorm 0 pic_Hold_M1_N pic_Hold_M1_A pic_Hold_M1_H st fun a m => outOf (pic_Hold_M1 (pic_Hold_M1_to a m).2.1 (pic_Hold_M1_to a m).2.2.2.1 (pic_Hold_M1_to a m).2.2.2.2) fun v => sumOf v (fun v => k .ret ⟨[.any, .any, .any, .any, .any, .any, .sl (.int .u8) (pic_Hold_M1_to a m).1 false, .lit (.int .i64 v), .any, .any, .any, .any, .any, .any, .any, .any, .any, .any, .any, .any, .any, .any, .any, .any, .any, .any, .any, .any, .any, .any, .any, .any, .any, .any, .any, .any, .any, .any, .any, .any, .any, .any, .any, .any, .any, .any, .any, .any, .any, .any, .any, .any, .any, .any, .any, .any, .any, .any, .any, .any, .any], []⟩) (fun v => k .normal ⟨[.sl (.int .u8) (pic_Hold_M1_to a m).1 false, .lit (.int .i64 (pic_Hold_M1_to a m).2.1), .lit (.int .i64 (pic_Hold_M1_to a m).2.2.1), .any, .any, .any, .any, .any, .lit (.int .i64 (pic_Hold_M1_to a m).2.2.2.1), .any, .any, .any, .any, .any, .any, .any, .any, .any, .any, .any, .any, .any, .any, .any, .any, .any, .any, .any, .any, .any, .any, .any, .any, .any, .any, .any, .any, .any, .any, .any, .any, .any, .any, .any, .any, .any, .any, .any, .any, .any, .any, .any, .any, .any, .any, .any, .any, .any, .any, .any, .any], []⟩)
theorem pic_Hold_M1_ok : SumOK Tryd.prog 0 ((codeAt (bodyOf Tryd.f31) [0, 1, 1]).getD .skip) pic_Hold_M1_sp := (SumOK.once NrJE2_ok mixed pic_Hold_h0_ok (show codeAt (bodyOf Tryd.f31) [0, 1, 1] = some ((codeAt (bodyOf Tryd.f31) [0, 1, 1]).getD .skip) from by kernel_rfl) (N := pic_Hold_M1_N) (Nx := pic_Hold_M1_X) (A := pic_Hold_M1_A) (Hs := pic_Hold_M1_H) (toD := pic_Hold_M1_to) (ofA := pic_Hold_M1_ofA) (ofH := pic_Hold_M1_ofH) (fun _ _ => rfl) (fun _ _ => rfl) (M := fun d => pic_Hold_M1 d.2.1 d.2.2.2.1 d.2.2.2.2) (fin := pic_Hold_M1_fin) 60 pic_Hold_M1_ev).mono fun α st k r h => by
  refine Eq.trans (congrArg (reNorm 0 pic_Hold_M1_N pic_Hold_M1_A pic_Hold_M1_H st) ?_) h
  funext a m
  exact outOf_congr fun x => by rcases x with x | x <;> rfl
noncomputable def pic_Hold_M1_h : Hints := pic_Hold_h0.add [0, 1, 1] pic_Hold_M1_sp
theorem pic_Hold_M1_h_ok : pic_Hold_M1_h.OK Tryd.prog (bodyOf Tryd.f31) := pic_Hold_h0_ok.add (show codeAt (bodyOf Tryd.f31) [0, 1, 1] = some ((codeAt (bodyOf Tryd.f31) [0, 1, 1]).getD .skip) from by kernel_rfl) pic_Hold_M1_ok
abbrev pic_Hold_R : Type := ((List Int) × Int)
noncomputable def pic_Hold_t {γ : Type} (a0 : (List Int)) (a1 : Int) (a2 : Int) (k : pic_Hold_R → Option γ) : Option γ := outOf (pic_held a0 a1) fun (x4 : (Int × Int)) => outOf (pic_Hold_M1 a1 (Prod.fst x4) (Prod.snd x4)) fun (x5 : Int ⊕ Unit) => sumOf x5 (fun x6 => k (a0, x6)) (fun x7 => outOf (mem_Put a0 (IntKind.wrap IntKind.i64 (a1 + (8 : Int))) (IntKind.wrap IntKind.i64 (Prod.fst x4 - (1 : Int)))) fun (x8 : ((List Int) × Int)) => cond (Prod.snd x8 != (0 : Int)) (k (a0, Prod.snd x8)) (outOf (mem_PutByte (Prod.fst x8) (IntKind.wrap IntKind.i64 (Prod.fst x4 - (1 : Int))) a2) fun (x9 : ((List Int) × Int)) => cond (Prod.snd x9 != (0 : Int)) (k (a0, Prod.snd x9)) (k (Prod.fst x9, (0 : Int)))))
noncomputable def pic_Hold (a0 : (List Int)) (a1 : Int) (a2 : Int) : Option pic_Hold_R := pic_Hold_t a0 a1 a2 some
theorem pic_Hold_t_eq {γ : Type} (a0 : (List Int)) (a1 : Int) (a2 : Int) (k : pic_Hold_R → Option γ) : pic_Hold_t a0 a1 a2 k = outOf (pic_Hold a0 a1 a2) k := by
  delta pic_Hold pic_Hold_t; exact (Tr.bd fun x4 => (Tr.bd fun x5 => (Tr.cs (fun x6 => Tr.lf) (fun x7 => (Tr.bd fun x8 => (Tr.nd Tr.lf (Tr.bd fun x9 => (Tr.nd Tr.lf Tr.lf))))))))
noncomputable def pic_Hold_sp : TX.Spec := specD [.val (.sl (.int .u8)), .val (.int .i64), .val (.int .i64)] [] fun _ a m k => match a, m with | ⟨a0, a1, a2, _⟩, _ => outOf (pic_Hold a0 a1 a2) fun v => k (.tup [.sl (.int .u8) v.1 false, .lit (.int .i64 v.2)]) []
theorem pic_Hold_ev {α : Type} (a0 : (List Int)) (a1 : Int) (a2 : Int) (k : Kont α) : evFun Tryd.prog NrJE2 (pic_Hold_M1_h) false Tryd.f31 (bodyOf Tryd.f31) 60 (mkS [.val (.sl (.int .u8)), .val (.int .i64), .val (.int .i64)] (a0, a1, a2, ())) (mkH [] ()) k = outOf (pic_Hold a0 a1 a2) fun v => k (.tup [.sl (.int .u8) v.1 false, .lit (.int .i64 v.2)]) [] :=
  (show _ = pic_Hold_t a0 a1 a2 (fun v => k (.tup [.sl (.int .u8) v.1 false, .lit (.int .i64 v.2)]) []) from by kernel_rfl).trans (pic_Hold_t_eq a0 a1 a2 _)
theorem pic_Hold_good : TX.Good Tryd.prog 31 pic_Hold_sp := good_form NrJE2_ok mixed Tryd.func31 (body_of rfl) (by kernel_rfl) false fun α a m k r h => by
  obtain ⟨a0, a1, a2, _⟩ := a; obtain _ := m
  exact ⟨pic_Hold_M1_h, 60, pic_Hold_M1_h_ok, rfl, (pic_Hold_ev a0 a1 a2 k).trans h⟩
def pic_End_h0 : Hints := Hints.nil 0
theorem pic_End_h0_ok : pic_End_h0.OK Tryd.prog (bodyOf Tryd.f32) := Hints.nil_ok
abbrev pic_End_R : Type := (Int × Int × Int)
noncomputable def pic_End_t {γ : Type} (a0 : (List Int)) (a1 : Int) (k : pic_End_R → Option γ) : Option γ := outOf (pic_held a0 a1) fun (x1 : (Int × Int)) => cond (Prod.snd x1 != (0 : Int)) (k ((0 : Int), (0 : Int), Prod.snd x1)) (cond (Prod.fst x1 != pic_end a1) (outOf (pic_pictured a1 (Prod.fst x1)) fun (x2 : Bool) => cond (!x2) (k ((0 : Int), (0 : Int), (-9 : Int))) (k (Prod.fst x1, IntKind.wrap IntKind.i64 (pic_end a1 - Prod.fst x1), (0 : Int)))) (k (Prod.fst x1, IntKind.wrap IntKind.i64 (pic_end a1 - Prod.fst x1), (0 : Int))))
noncomputable def pic_End (a0 : (List Int)) (a1 : Int) : Option pic_End_R := pic_End_t a0 a1 some
theorem pic_End_t_eq {γ : Type} (a0 : (List Int)) (a1 : Int) (k : pic_End_R → Option γ) : pic_End_t a0 a1 k = outOf (pic_End a0 a1) k := by
  delta pic_End pic_End_t; exact (Tr.bd fun x1 => (Tr.nd Tr.lf (Tr.nd (Tr.bd fun x2 => (Tr.nd Tr.lf Tr.lf)) Tr.lf)))
noncomputable def pic_End_sp : TX.Spec := specD [.val (.sl (.int .u8)), .val (.int .i64)] [] fun _ a m k => match a, m with | ⟨a0, a1, _⟩, _ => outOf (pic_End a0 a1) fun v => k (.tup [.lit (.int .i64 v.1), .lit (.int .i64 v.2.1), .lit (.int .i64 v.2.2)]) []
theorem pic_End_ev {α : Type} (a0 : (List Int)) (a1 : Int) (k : Kont α) : evFun Tryd.prog NrJE2 (pic_End_h0) false Tryd.f32 (bodyOf Tryd.f32) 60 (mkS [.val (.sl (.int .u8)), .val (.int .i64)] (a0, a1, ())) (mkH [] ()) k = outOf (pic_End a0 a1) fun v => k (.tup [.lit (.int .i64 v.1), .lit (.int .i64 v.2.1), .lit (.int .i64 v.2.2)]) [] :=
  (show _ = pic_End_t a0 a1 (fun v => k (.tup [.lit (.int .i64 v.1), .lit (.int .i64 v.2.1), .lit (.int .i64 v.2.2)]) []) from by kernel_rfl).trans (pic_End_t_eq a0 a1 _)
theorem pic_End_good : TX.Good Tryd.prog 32 pic_End_sp := good_form NrJE2_ok mixed Tryd.func32 (body_of rfl) (by kernel_rfl) false fun α a m k r h => by
  obtain ⟨a0, a1, _⟩ := a; obtain _ := m
  exact ⟨pic_End_h0, 60, pic_End_h0_ok, rfl, (pic_End_ev a0 a1 k).trans h⟩
noncomputable def NrJE3 : Env := NrJE2.add 31 true pic_Hold_sp |>.add 32 true pic_End_sp
theorem NrJE3_ok : NrJE3.OK Tryd.prog := ((NrJE2_ok).add_ok pic_Hold_good).add_ok pic_End_good
def pic_Digit_h0 : Hints := Hints.nil 0
theorem pic_Digit_h0_ok : pic_Digit_h0.OK Tryd.prog (bodyOf Tryd.f35) := Hints.nil_ok
abbrev pic_Digit_R : Type := ((List Int) × Int × Int × Int)
noncomputable def pic_Digit_t {γ : Type} (a0 : (List Int)) (a1 : Int) (a2_0 : Int) (a2_1 : Int) (k : pic_Digit_R → Option γ) : Option γ := outOf (pic_Base a0 a1) fun (x1 : (Int × Int)) => cond (Prod.snd x1 != (0 : Int)) (k (a0, (0 : Int), (0 : Int), Prod.snd x1)) (outOf (pic_divide a2_0 a2_1 (Prod.fst x1)) fun (x2 : (Int × (Int × Int))) => outOf (num_Sign (Prod.snd (Prod.snd x2))) fun (x3 : ByteArray) => cond (decide ((0 : Int) ≤ (0 : Int) ∧ (0 : Int) < (↑(ByteArray.size x3) : Int))) (outOf (pic_Hold a0 a1 (IntKind.wrap IntKind.i64 (↑(UInt8.toNat (List.getD (Array.toList (ByteArray.data x3)) (0 : Nat) (UInt8.ofNat (nat_lit 0)))) : Int))) fun (x4 : ((List Int) × Int)) => cond (Prod.snd x4 != (0 : Int)) (k (a0, (0 : Int), (0 : Int), Prod.snd x4)) (k (Prod.fst x4, Prod.fst x2, Prod.fst (Prod.snd x2), (0 : Int)))) (none))
noncomputable def pic_Digit (a0 : (List Int)) (a1 : Int) (a2_0 : Int) (a2_1 : Int) : Option pic_Digit_R := pic_Digit_t a0 a1 a2_0 a2_1 some
theorem pic_Digit_t_eq {γ : Type} (a0 : (List Int)) (a1 : Int) (a2_0 : Int) (a2_1 : Int) (k : pic_Digit_R → Option γ) : pic_Digit_t a0 a1 a2_0 a2_1 k = outOf (pic_Digit a0 a1 a2_0 a2_1) k := by
  delta pic_Digit pic_Digit_t; exact (Tr.bd fun x1 => (Tr.nd Tr.lf (Tr.bd fun x2 => (Tr.bd fun x3 => (Tr.nd (Tr.bd fun x4 => (Tr.nd Tr.lf Tr.lf)) Tr.no)))))
noncomputable def pic_Digit_sp : TX.Spec := specD [.val (.sl (.int .u8)), .val (.int .i64), .agg (.pair (.int .i64) (.int .i64))] [] fun _ a m k => match a, m with | ⟨a0, a1, ⟨a2_0, a2_1⟩, _⟩, _ => outOf (pic_Digit a0 a1 a2_0 a2_1) fun v => k (.tup [.sl (.int .u8) v.1 false, .agg [.lit (.int .i64 v.2.1), .lit (.int .i64 v.2.2.1)], .lit (.int .i64 v.2.2.2)]) []
theorem pic_Digit_ev {α : Type} (a0 : (List Int)) (a1 : Int) (a2_0 : Int) (a2_1 : Int) (k : Kont α) : evFun Tryd.prog NrJE3 (pic_Digit_h0) false Tryd.f35 (bodyOf Tryd.f35) 60 (mkS [.val (.sl (.int .u8)), .val (.int .i64), .agg (.pair (.int .i64) (.int .i64))] (a0, a1, (a2_0, a2_1), ())) (mkH [] ()) k = outOf (pic_Digit a0 a1 a2_0 a2_1) fun v => k (.tup [.sl (.int .u8) v.1 false, .agg [.lit (.int .i64 v.2.1), .lit (.int .i64 v.2.2.1)], .lit (.int .i64 v.2.2.2)]) [] :=
  (show _ = pic_Digit_t a0 a1 a2_0 a2_1 (fun v => k (.tup [.sl (.int .u8) v.1 false, .agg [.lit (.int .i64 v.2.1), .lit (.int .i64 v.2.2.1)], .lit (.int .i64 v.2.2.2)]) []) from by kernel_rfl).trans (pic_Digit_t_eq a0 a1 a2_0 a2_1 _)
theorem pic_Digit_good : TX.Good Tryd.prog 35 pic_Digit_sp := good_form NrJE3_ok mixed Tryd.func35 (body_of rfl) (by kernel_rfl) false fun α a m k r h => by
  obtain ⟨a0, a1, ⟨a2_0, a2_1⟩, _⟩ := a; obtain _ := m
  exact ⟨pic_Digit_h0, 60, pic_Digit_h0_ok, rfl, (pic_Digit_ev a0 a1 a2_0 a2_1 k).trans h⟩
def pic_Sign_h0 : Hints := Hints.nil 0
theorem pic_Sign_h0_ok : pic_Sign_h0.OK Tryd.prog (bodyOf Tryd.f41) := Hints.nil_ok
abbrev pic_Sign_R : Type := ((List Int) × Int)
noncomputable def pic_Sign_t {γ : Type} (a0 : (List Int)) (a1 : Int) (a2 : Int) (k : pic_Sign_R → Option γ) : Option γ := outOf (pic_area a1) fun (x1 : Bool) => cond (!x1) (k (a0, (-9 : Int))) (cond (decide (a2 < (0 : Int))) (outOf (pic_Hold a0 a1 (45 : Int)) fun (x2 : ((List Int) × Int)) => k (Prod.fst x2, Prod.snd x2)) (k (a0, (0 : Int))))
noncomputable def pic_Sign (a0 : (List Int)) (a1 : Int) (a2 : Int) : Option pic_Sign_R := pic_Sign_t a0 a1 a2 some
theorem pic_Sign_t_eq {γ : Type} (a0 : (List Int)) (a1 : Int) (a2 : Int) (k : pic_Sign_R → Option γ) : pic_Sign_t a0 a1 a2 k = outOf (pic_Sign a0 a1 a2) k := by
  delta pic_Sign pic_Sign_t; exact (Tr.bd fun x1 => (Tr.nd Tr.lf (Tr.nd (Tr.bd fun x2 => Tr.lf) Tr.lf)))
noncomputable def pic_Sign_sp : TX.Spec := specD [.val (.sl (.int .u8)), .val (.int .i64), .val (.int .i64)] [] fun _ a m k => match a, m with | ⟨a0, a1, a2, _⟩, _ => outOf (pic_Sign a0 a1 a2) fun v => k (.tup [.sl (.int .u8) v.1 false, .lit (.int .i64 v.2)]) []
theorem pic_Sign_ev {α : Type} (a0 : (List Int)) (a1 : Int) (a2 : Int) (k : Kont α) : evFun Tryd.prog NrJE3 (pic_Sign_h0) false Tryd.f41 (bodyOf Tryd.f41) 60 (mkS [.val (.sl (.int .u8)), .val (.int .i64), .val (.int .i64)] (a0, a1, a2, ())) (mkH [] ()) k = outOf (pic_Sign a0 a1 a2) fun v => k (.tup [.sl (.int .u8) v.1 false, .lit (.int .i64 v.2)]) [] :=
  (show _ = pic_Sign_t a0 a1 a2 (fun v => k (.tup [.sl (.int .u8) v.1 false, .lit (.int .i64 v.2)]) []) from by kernel_rfl).trans (pic_Sign_t_eq a0 a1 a2 _)
theorem pic_Sign_good : TX.Good Tryd.prog 41 pic_Sign_sp := good_form NrJE3_ok mixed Tryd.func41 (body_of rfl) (by kernel_rfl) false fun α a m k r h => by
  obtain ⟨a0, a1, a2, _⟩ := a; obtain _ := m
  exact ⟨pic_Sign_h0, 60, pic_Sign_h0_ok, rfl, (pic_Sign_ev a0 a1 a2 k).trans h⟩
noncomputable def NrJE4 : Env := NrJE3.add 35 true pic_Digit_sp |>.add 41 true pic_Sign_sp
theorem NrJE4_ok : NrJE4.OK Tryd.prog := ((NrJE3_ok).add_ok pic_Digit_good).add_ok pic_Sign_good
def pic_All_h0 : Hints := Hints.nil 0
theorem pic_All_h0_ok : pic_All_h0.OK Tryd.prog (bodyOf Tryd.f34) := Hints.nil_ok
def pic_All_L1_A : List SD := [.val (.sl (.int .u8)), .val (.int .i64), .any, .any, .any, .loc 0 0 0, .any, .loc 1 0 0, .any, .val (.sl (.int .u8)), .any, .any, .any, .any, .any, .any, .any, .any, .any, .any, .any, .any, .any, .any, .any, .any, .any, .any, .any, .any, .any, .any, .any, .any, .any, .any, .any, .any]
def pic_All_L1_H : List HD := [.box [.val (.int .i64), .val (.int .i64)], .box [.val (.int .i64), .val (.int .i64)]]
abbrev pic_All_L1_D : Type := (List Int) × Int × (List Int) × Int × Int × Int × Int
def pic_All_L1_to (a : DenS pic_All_L1_A) (m : DenH pic_All_L1_H) : pic_All_L1_D := (a.1, a.2.1, a.2.2.2.2.2.2.2.2.2.1, m.1.1, m.1.2.1, m.2.1.1, m.2.1.2.1)
def pic_All_L1_ofA (d : pic_All_L1_D) : DenS pic_All_L1_A := match d with | (s0, s1, s9, m0_0, m0_1, m1_0, m1_1) => (s0, s1, (), (), (), (), (), (), (), s9, (), (), (), (), (), (), (), (), (), (), (), (), (), (), (), (), (), (), (), (), (), (), (), (), (), (), (), (), ())
def pic_All_L1_ofH (d : pic_All_L1_D) : DenH pic_All_L1_H := match d with | (s0, s1, s9, m0_0, m0_1, m1_0, m1_1) => ((m0_0, m0_1, ()), (m1_0, m1_1, ()), ())
def pic_All_L1_N : Norm := (⟨[0, 1, 5, 7, 9], [], []⟩ : Go.TX.Norm)
def pic_All_L1_X : Exit → Norm := fun e => match e with | .ret => ⟨[6, 7, 8], [], []⟩ | .exit 0 => ⟨[5, 7, 9], [], []⟩ | _ => ⟨[], [], []⟩
abbrev pic_All_L1_R : Type := (((List Int) × Int × Int × Int) ⊕ ((List Int) × Int × Int × Int × Int))
def pic_All_L1_fin (v : pic_All_L1_R) : Exit × St := sumOf v (fun v => (.ret, ⟨[.any, .any, .any, .any, .any, .any, .sl (.int .u8) v.1 false, .ptr 0 0 0, .lit (.int .i64 v.2.1), .any, .any, .any, .any, .any, .any, .any, .any, .any, .any, .any, .any, .any, .any, .any, .any, .any, .any, .any, .any, .any, .any, .any, .any, .any, .any, .any, .any, .any], [.box [.lit (.int .i64 v.2.2.1), .lit (.int .i64 v.2.2.2)]]⟩)) (fun v => ((.exit 0), ⟨[.any, .any, .any, .any, .any, .ptr 0 0 0, .any, .ptr 1 0 0, .any, .sl (.int .u8) v.1 false, .any, .any, .any, .any, .any, .any, .any, .any, .any, .any, .any, .any, .any, .any, .any, .any, .any, .any, .any, .any, .any, .any, .any, .any, .any, .any, .any, .any], [.box [.lit (.int .i64 v.2.1), .lit (.int .i64 v.2.2.1)], .box [.lit (.int .i64 v.2.2.2.1), .lit (.int .i64 v.2.2.2.2)]]⟩))
noncomputable def pic_All_L1_t {γ : Type} (s0 : (List Int)) (s1 : Int) (s9 : (List Int)) (m0_0 : Int) (m0_1 : Int) (m1_0 : Int) (m1_1 : Int) (next : pic_All_L1_D → Option γ) (out : pic_All_L1_R → Option γ) : Option γ := outOf (pic_Digit s9 s1 m0_0 m0_1) fun (x1 : ((List Int) × (Int × (Int × Int)))) => cond (Prod.snd (Prod.snd (Prod.snd x1)) != (0 : Int)) (out (.inl (s0, Prod.snd (Prod.snd (Prod.snd x1)), (0 : Int), (0 : Int)))) (cond (Prod.fst (Prod.snd x1) == (0 : Int) && (Prod.fst (Prod.snd (Prod.snd x1)) == (0 : Int) && true)) (out (.inr (Prod.fst x1, Prod.fst (Prod.snd x1), Prod.fst (Prod.snd (Prod.snd x1)), m1_0, m1_1))) (next (s0, s1, Prod.fst x1, Prod.fst (Prod.snd x1), Prod.fst (Prod.snd (Prod.snd x1)), m1_0, m1_1)))
noncomputable def pic_All_L1_pass (d : pic_All_L1_D) : Option (pic_All_L1_D ⊕ pic_All_L1_R) := pic_All_L1_t d.1 d.2.1 d.2.2.1 d.2.2.2.1 d.2.2.2.2.1 d.2.2.2.2.2.1 d.2.2.2.2.2.2 (fun d => some (.inl d)) (fun x => some (.inr x))
theorem pic_All_L1_t_eq {γ : Type} (s0 : (List Int)) (s1 : Int) (s9 : (List Int)) (m0_0 : Int) (m0_1 : Int) (m1_0 : Int) (m1_1 : Int) (next : pic_All_L1_D → Option γ) (out : pic_All_L1_R → Option γ) : pic_All_L1_t s0 s1 s9 m0_0 m0_1 m1_0 m1_1 next out = PassOf (pic_All_L1_t s0 s1 s9 m0_0 m0_1 m1_0 m1_1 (fun d => some (.inl d)) (fun x => some (.inr x))) next out := by
  delta pic_All_L1_t; exact (Ps.bd fun x1 => (Ps.nd Ps.ou (Ps.nd Ps.ou Ps.nx)))
theorem pic_All_L1_ev (α : Type) (d : pic_All_L1_D) (next : pic_All_L1_D → Option α) (k : Exit → St → Option α) : ev Tryd.prog NrJE4 pic_All_h0 60 [0, 0, 0, 1, 1, 0, 1] ((codeAt (bodyOf Tryd.f34) [0, 0, 0, 1, 1, 0, 1]).getD .skip) ⟨mkS pic_All_L1_A (pic_All_L1_ofA d), mkH pic_All_L1_H (pic_All_L1_ofH d)⟩ (passK 0 pic_All_L1_N pic_All_L1_A pic_All_L1_H pic_All_L1_X (fun a m => next (pic_All_L1_to a m)) k) = PassOf (pic_All_L1_pass d) next fun x => k (pic_All_L1_fin x).1 (pic_All_L1_fin x).2 := by
  obtain ⟨s0, s1, s9, m0_0, m0_1, m1_0, m1_1⟩ := d
  exact (show _ = pic_All_L1_t s0 s1 s9 m0_0 m0_1 m1_0 m1_1 next (fun x => k (pic_All_L1_fin x).1 (pic_All_L1_fin x).2) from by kernel_rfl).trans (pic_All_L1_t_eq s0 s1 s9 m0_0 m0_1 m1_0 m1_1 _ _)
noncomputable def pic_All_L1 (d : pic_All_L1_D) : Option pic_All_L1_R := runs pic_All_L1_pass d
noncomputable def pic_All_L1_sp : CSpec := fun _ st k => reNorm 0 pic_All_L1_N pic_All_L1_A pic_All_L1_H st fun a m => outOf (pic_All_L1 (pic_All_L1_to a m)) fun v => sumOf v (fun v => k .ret ⟨[.any, .any, .any, .any, .any, .any, .sl (.int .u8) v.1 false, .ptr 0 0 0, .lit (.int .i64 v.2.1), .any, .any, .any, .any, .any, .any, .any, .any, .any, .any, .any, .any, .any, .any, .any, .any, .any, .any, .any, .any, .any, .any, .any, .any, .any, .any, .any, .any, .any], [.box [.lit (.int .i64 v.2.2.1), .lit (.int .i64 v.2.2.2)]]⟩) (fun v => k (.exit 0) ⟨[.any, .any, .any, .any, .any, .ptr 0 0 0, .any, .ptr 1 0 0, .any, .sl (.int .u8) v.1 false, .any, .any, .any, .any, .any, .any, .any, .any, .any, .any, .any, .any, .any, .any, .any, .any, .any, .any, .any, .any, .any, .any, .any, .any, .any, .any, .any, .any], [.box [.lit (.int .i64 v.2.1), .lit (.int .i64 v.2.2.1)], .box [.lit (.int .i64 v.2.2.2.1), .lit (.int .i64 v.2.2.2.2)]]⟩)
theorem pic_All_L1_ok : SumOK Tryd.prog 0 (.loop ((codeAt (bodyOf Tryd.f34) [0, 0, 0, 1, 1, 0, 1]).getD .skip)) pic_All_L1_sp := (SumOK.loop NrJE4_ok mixed pic_All_h0_ok (show codeAt (bodyOf Tryd.f34) [0, 0, 1, 1, 0, 1] = some (.loop ((codeAt (bodyOf Tryd.f34) [0, 0, 0, 1, 1, 0, 1]).getD .skip)) from by kernel_rfl) (N := pic_All_L1_N) (Nx := pic_All_L1_X) (A := pic_All_L1_A) (Hs := pic_All_L1_H) (toD := pic_All_L1_to) (ofA := pic_All_L1_ofA) (ofH := pic_All_L1_ofH) (fun _ _ => rfl) (fun _ _ => rfl) (pass := pic_All_L1_pass) (fin := pic_All_L1_fin) 60 pic_All_L1_ev (steps pic_All_L1_pass)).mono fun α st k r h => by
  refine Eq.trans (congrArg (reNorm 0 pic_All_L1_N pic_All_L1_A pic_All_L1_H st) ?_) h
  funext a m
  exact outOf_congr fun x => by rcases x with x | x <;> rfl
noncomputable def pic_All_L1_h : Hints := pic_All_h0.add [0, 0, 1, 1, 0, 1] pic_All_L1_sp
theorem pic_All_L1_h_ok : pic_All_L1_h.OK Tryd.prog (bodyOf Tryd.f34) := pic_All_h0_ok.add (show codeAt (bodyOf Tryd.f34) [0, 0, 1, 1, 0, 1] = some (.loop ((codeAt (bodyOf Tryd.f34) [0, 0, 0, 1, 1, 0, 1]).getD .skip)) from by kernel_rfl) pic_All_L1_ok
abbrev pic_All_R : Type := ((List Int) × Int × Int × Int)
noncomputable def pic_All_t {γ : Type} (a0 : (List Int)) (a1 : Int) (a2_0 : Int) (a2_1 : Int) (k : pic_All_R → Option γ) : Option γ := outOf (pic_All_L1 (a0, a1, a0, a2_0, a2_1, (0 : Int), (0 : Int))) fun (x2 : List Int × Int × Int × Int ⊕ List Int × Int × Int × Int × Int) => sumOf x2 (fun x3 => k (Prod.fst x3, Prod.fst (Prod.snd (Prod.snd x3)), Prod.snd (Prod.snd (Prod.snd x3)), Prod.fst (Prod.snd x3))) (fun x4 => k (Prod.fst x4, Prod.fst (Prod.snd x4), Prod.fst (Prod.snd (Prod.snd x4)), (0 : Int)))
noncomputable def pic_All (a0 : (List Int)) (a1 : Int) (a2_0 : Int) (a2_1 : Int) : Option pic_All_R := pic_All_t a0 a1 a2_0 a2_1 some
theorem pic_All_t_eq {γ : Type} (a0 : (List Int)) (a1 : Int) (a2_0 : Int) (a2_1 : Int) (k : pic_All_R → Option γ) : pic_All_t a0 a1 a2_0 a2_1 k = outOf (pic_All a0 a1 a2_0 a2_1) k := by
  delta pic_All pic_All_t; exact (Tr.bd fun x2 => (Tr.cs (fun x3 => Tr.lf) (fun x4 => Tr.lf)))
noncomputable def pic_All_sp : TX.Spec := specD [.val (.sl (.int .u8)), .val (.int .i64), .agg (.pair (.int .i64) (.int .i64))] [] fun _ a m k => match a, m with | ⟨a0, a1, ⟨a2_0, a2_1⟩, _⟩, _ => outOf (pic_All a0 a1 a2_0 a2_1) fun v => k (.tup [.sl (.int .u8) v.1 false, .agg [.lit (.int .i64 v.2.1), .lit (.int .i64 v.2.2.1)], .lit (.int .i64 v.2.2.2)]) []
theorem pic_All_ev {α : Type} (a0 : (List Int)) (a1 : Int) (a2_0 : Int) (a2_1 : Int) (k : Kont α) : evFun Tryd.prog NrJE4 (pic_All_L1_h) false Tryd.f34 (bodyOf Tryd.f34) 60 (mkS [.val (.sl (.int .u8)), .val (.int .i64), .agg (.pair (.int .i64) (.int .i64))] (a0, a1, (a2_0, a2_1), ())) (mkH [] ()) k = outOf (pic_All a0 a1 a2_0 a2_1) fun v => k (.tup [.sl (.int .u8) v.1 false, .agg [.lit (.int .i64 v.2.1), .lit (.int .i64 v.2.2.1)], .lit (.int .i64 v.2.2.2)]) [] :=
  (show _ = pic_All_t a0 a1 a2_0 a2_1 (fun v => k (.tup [.sl (.int .u8) v.1 false, .agg [.lit (.int .i64 v.2.1), .lit (.int .i64 v.2.2.1)], .lit (.int .i64 v.2.2.2)]) []) from by kernel_rfl).trans (pic_All_t_eq a0 a1 a2_0 a2_1 _)
theorem pic_All_good : TX.Good Tryd.prog 34 pic_All_sp := good_form NrJE4_ok mixed Tryd.func34 (body_of rfl) (by kernel_rfl) false fun α a m k r h => by
  obtain ⟨a0, a1, ⟨a2_0, a2_1⟩, _⟩ := a; obtain _ := m
  exact ⟨pic_All_L1_h, 60, pic_All_L1_h_ok, rfl, (pic_All_ev a0 a1 a2_0 a2_1 k).trans h⟩
noncomputable def NrJE5 : Env := NrJE4.add 34 true pic_All_sp
theorem NrJE5_ok : NrJE5.OK Tryd.prog := (NrJE4_ok).add_ok pic_All_good
noncomputable def NrJE6 : Env := NrJE5
theorem NrJE6_ok : NrJE6.OK Tryd.prog := NrJE5_ok
noncomputable def NrJE7 : Env := NrJE6
theorem NrJE7_ok : NrJE7.OK Tryd.prog := NrJE6_ok
def law_ready_h0 : Hints := Hints.nil 0
theorem law_ready_h0_ok : law_ready_h0.OK Tryd.prog (bodyOf Tryd.f30) := Hints.nil_ok
abbrev law_ready_R : Type := ((List Int))
noncomputable def law_ready_t {γ : Type} (a0 : Int) (k : law_ready_R → Option γ) : Option γ := outOf (mem_Put (List.take (128 : Nat) (List.drop (0 : Nat) (List.replicate (128 : Nat) (0 : Int)))) (0 : Int) a0) fun (x1 : ((List Int) × Int)) => outOf (pic_Begin (Prod.fst x1) (0 : Int)) fun (x2 : ((List Int) × Int)) => k (Prod.fst x2)
noncomputable def law_ready (a0 : Int) : Option law_ready_R := law_ready_t a0 some
theorem law_ready_t_eq {γ : Type} (a0 : Int) (k : law_ready_R → Option γ) : law_ready_t a0 k = outOf (law_ready a0) k := by
  delta law_ready law_ready_t; exact (Tr.bd fun x1 => (Tr.bd fun x2 => Tr.lf))
noncomputable def law_ready_sp : TX.Spec := specD [.val (.int .i64)] [] fun _ a m k => match a, m with | ⟨a0, _⟩, _ => outOf (law_ready a0) fun v => k (.sl (.int .u8) v false) []
theorem law_ready_ev {α : Type} (a0 : Int) (k : Kont α) : evFun Tryd.prog NrJE7 (law_ready_h0) false Tryd.f30 (bodyOf Tryd.f30) 60 (mkS [.val (.int .i64)] (a0, ())) (mkH [] ()) k = outOf (law_ready a0) fun v => k (.sl (.int .u8) v false) [] :=
  (show _ = law_ready_t a0 (fun v => k (.sl (.int .u8) v false) []) from by kernel_rfl).trans (law_ready_t_eq a0 _)
theorem law_ready_good : TX.Good Tryd.prog 30 law_ready_sp := good_form NrJE7_ok mixed Tryd.func30 (body_of rfl) (by kernel_rfl) false fun α a m k r h => by
  obtain ⟨a0, _⟩ := a; obtain _ := m
  exact ⟨law_ready_h0, 60, law_ready_h0_ok, rfl, (law_ready_ev a0 k).trans h⟩
noncomputable def NrJE8 : Env := NrJE7.add 30 true law_ready_sp
theorem NrJE8_ok : NrJE8.OK Tryd.prog := (NrJE7_ok).add_ok law_ready_good
def law10_awake_h0 : Hints := Hints.nil 0
theorem law10_awake_h0_ok : law10_awake_h0.OK Tryd.prog (bodyOf Tryd.f29) := Hints.nil_ok
abbrev law10_awake_R : Type := (Bool)
noncomputable def law10_awake_t {γ : Type} (k : law10_awake_R → Option γ) : Option γ := outOf (law_ready (10 : Int)) fun (x1 : (List Int)) => outOf (pic_All x1 (0 : Int) (255 : Int) (0 : Int)) fun (x2 : ((List Int) × (Int × (Int × Int)))) => outOf (pic_End (Prod.fst x2) (0 : Int)) fun (x3 : (Int × (Int × Int))) => outOf (mem_Text (Prod.fst x2) (Prod.fst x3) (Prod.fst (Prod.snd x3))) fun (x4 : (ByteArray × Int)) => cond (Prod.snd (Prod.snd (Prod.snd x2)) == (0 : Int)) (cond (Prod.fst (Prod.snd x2) == (0 : Int) && (Prod.fst (Prod.snd (Prod.snd x2)) == (0 : Int) && true)) (cond (Prod.snd (Prod.snd x3) == (0 : Int)) (cond (Prod.snd x4 == (0 : Int)) (cond (ByteArray.toList (Prod.fst x4) == ByteArray.toList (bytesOf [50, 53, 53])) (k (Prod.fst x3 == (125 : Int))) (k (false))) (k (false))) (k (false))) (k (false))) (k (false))
noncomputable def law10_awake : Option law10_awake_R := law10_awake_t  some
theorem law10_awake_t_eq {γ : Type} (k : law10_awake_R → Option γ) : law10_awake_t  k = outOf law10_awake k := by
  delta law10_awake law10_awake_t; exact (Tr.bd fun x1 => (Tr.bd fun x2 => (Tr.bd fun x3 => (Tr.bd fun x4 => (Tr.nd (Tr.nd (Tr.nd (Tr.nd (Tr.nd Tr.lf Tr.lf) Tr.lf) Tr.lf) Tr.lf) Tr.lf)))))
noncomputable def law10_awake_sp : TX.Spec := specD [] [] fun _ a m k => match a, m with | _, _ => outOf law10_awake fun v => k (.lit (.bool v)) []
theorem law10_awake_ev {α : Type} (k : Kont α) : evFun Tryd.prog NrJE8 (law10_awake_h0) false Tryd.f29 (bodyOf Tryd.f29) 60 (mkS [] ()) (mkH [] ()) k = outOf law10_awake fun v => k (.lit (.bool v)) [] :=
  (show _ = law10_awake_t  (fun v => k (.lit (.bool v)) []) from by kernel_rfl).trans (law10_awake_t_eq  _)
theorem law10_awake_good : TX.Good Tryd.prog 29 law10_awake_sp := good_form NrJE8_ok mixed Tryd.func29 (body_of rfl) (by kernel_rfl) false fun α a m k r h => by
  obtain _ := a; obtain _ := m
  exact ⟨law10_awake_h0, 60, law10_awake_h0_ok, rfl, (law10_awake_ev  k).trans h⟩
noncomputable def NrJE9 : Env := NrJE8.add 29 true law10_awake_sp
theorem NrJE9_ok : NrJE9.OK Tryd.prog := (NrJE8_ok).add_ok law10_awake_good
def lawTexts_h0 : Hints := Hints.nil 0
theorem lawTexts_h0_ok : lawTexts_h0.OK Tryd.prog (bodyOf Tryd.f13) := Hints.nil_ok
def lawTexts_M1_A : List SD := [.any, .val (.int .i64), .loc 0 0 0, .any, .any, .val .bool, .any, .any, .any, .any, .any, .any, .any, .any, .any, .any, .any, .any, .any, .any, .any, .any, .any, .any, .any, .any, .any, .any, .any, .any, .any, .any, .any, .any, .any, .any, .any, .any, .any, .any, .any, .any, .any, .any, .any, .any, .any, .any, .any, .any, .any, .any, .any, .any, .any, .any, .any, .any, .any, .any, .any, .any, .any, .any, .any, .any, .any, .any, .any, .any, .any, .any, .any, .any, .any, .any, .any, .any, .any, .any, .any, .any, .any, .any, .any, .any, .any, .any, .any, .any, .any, .any, .any, .any, .any, .any, .any, .any, .any, .any, .any, .any, .any, .any, .any, .any, .any, .any, .any, .any, .any, .any, .any, .any, .any, .any, .any, .any, .any, .any, .any, .any, .any, .any, .any, .any, .any]
def lawTexts_M1_H : List HD := [.box [.val (.int .i64), .val (.int .i64)]]
abbrev lawTexts_M1_D : Type := Int × Bool × Int × Int
def lawTexts_M1_to (a : DenS lawTexts_M1_A) (m : DenH lawTexts_M1_H) : lawTexts_M1_D := (a.2.1, a.2.2.2.2.2.1, m.1.1, m.1.2.1)
def lawTexts_M1_ofA (d : lawTexts_M1_D) : DenS lawTexts_M1_A := match d with | (s1, s5, m0_0, m0_1) => ((), s1, (), (), (), s5, (), (), (), (), (), (), (), (), (), (), (), (), (), (), (), (), (), (), (), (), (), (), (), (), (), (), (), (), (), (), (), (), (), (), (), (), (), (), (), (), (), (), (), (), (), (), (), (), (), (), (), (), (), (), (), (), (), (), (), (), (), (), (), (), (), (), (), (), (), (), (), (), (), (), (), (), (), (), (), (), (), (), (), (), (), (), (), (), (), (), (), (), (), (), (), (), (), (), (), (), (), (), (), (), (), (), (), (), (), (), (), (), (), (), (), (), (), (), (), (), (), ())
def lawTexts_M1_ofH (d : lawTexts_M1_D) : DenH lawTexts_M1_H := match d with | (s1, s5, m0_0, m0_1) => ((m0_0, m0_1, ()), ())
def lawTexts_M1_N : Norm := (⟨[1, 2, 5], [], []⟩ : Go.TX.Norm)
def lawTexts_M1_X : Exit → Norm := fun e => match e with | .normal => ⟨[1, 2, 5], [], []⟩ | .ret => ⟨[4], [], []⟩ | _ => ⟨[], [], []⟩
abbrev lawTexts_M1_R : Type := ((Unit) ⊕ (Unit))
def lawTexts_M1_fin (d : lawTexts_M1_D) (v : lawTexts_M1_R) : Exit × St := sumOf v (fun v => (.ret, ⟨[.any, .any, .any, .any, .lit (.bool d.2.1), .any, .any, .any, .any, .any, .any, .any, .any, .any, .any, .any, .any, .any, .any, .any, .any, .any, .any, .any, .any, .any, .any, .any, .any, .any, .any, .any, .any, .any, .any, .any, .any, .any, .any, .any, .any, .any, .any, .any, .any, .any, .any, .any, .any, .any, .any, .any, .any, .any, .any, .any, .any, .any, .any, .any, .any, .any, .any, .any, .any, .any, .any, .any, .any, .any, .any, .any, .any, .any, .any, .any, .any, .any, .any, .any, .any, .any, .any, .any, .any, .any, .any, .any, .any, .any, .any, .any, .any, .any, .any, .any, .any, .any, .any, .any, .any, .any, .any, .any, .any, .any, .any, .any, .any, .any, .any, .any, .any, .any, .any, .any, .any, .any, .any, .any, .any, .any, .any, .any, .any, .any, .any], []⟩)) (fun v => (.normal, ⟨[.any, .lit (.int .i64 d.1), .ptr 0 0 0, .any, .any, .lit (.bool d.2.1), .any, .any, .any, .any, .any, .any, .any, .any, .any, .any, .any, .any, .any, .any, .any, .any, .any, .any, .any, .any, .any, .any, .any, .any, .any, .any, .any, .any, .any, .any, .any, .any, .any, .any, .any, .any, .any, .any, .any, .any, .any, .any, .any, .any, .any, .any, .any, .any, .any, .any, .any, .any, .any, .any, .any, .any, .any, .any, .any, .any, .any, .any, .any, .any, .any, .any, .any, .any, .any, .any, .any, .any, .any, .any, .any, .any, .any, .any, .any, .any, .any, .any, .any, .any, .any, .any, .any, .any, .any, .any, .any, .any, .any, .any, .any, .any, .any, .any, .any, .any, .any, .any, .any, .any, .any, .any, .any, .any, .any, .any, .any, .any, .any, .any, .any, .any, .any, .any, .any, .any, .any], [.box [.lit (.int .i64 d.2.2.1), .lit (.int .i64 d.2.2.2)]]⟩))
noncomputable def lawTexts_M1_t {γ : Type} (s1 : Int) (m0_1 : Int) (k : lawTexts_M1_R → Option γ) : Option γ := cond (decide (s1 < (2 : Int))) (k (.inl ())) (cond (decide (s1 > (36 : Int))) (k (.inl ())) (cond (decide (m0_1 < (0 : Int))) (k (.inl ())) (k (.inr ()))))
noncomputable def lawTexts_M1 (s1 : Int) (m0_1 : Int) : Option lawTexts_M1_R := lawTexts_M1_t s1 m0_1 some
theorem lawTexts_M1_t_eq {γ : Type} (s1 : Int) (m0_1 : Int) (k : lawTexts_M1_R → Option γ) : lawTexts_M1_t s1 m0_1 k = outOf (lawTexts_M1 s1 m0_1) k := by
  delta lawTexts_M1 lawTexts_M1_t; exact (Tr.nd Tr.lf (Tr.nd Tr.lf (Tr.nd Tr.lf Tr.lf)))
theorem lawTexts_M1_ev (α : Type) (d : lawTexts_M1_D) (k : Exit → St → Option α) : ev Tryd.prog NrJE9 lawTexts_h0 60 [0, 1, 1] ((codeAt (bodyOf Tryd.f13) [0, 1, 1]).getD .skip) ⟨mkS lawTexts_M1_A (lawTexts_M1_ofA d), mkH lawTexts_M1_H (lawTexts_M1_ofH d)⟩ (exitN 0 lawTexts_M1_X k) = outOf (lawTexts_M1 d.1 d.2.2.2) fun x => k (lawTexts_M1_fin d x).1 (lawTexts_M1_fin d x).2 := by
  obtain ⟨s1, s5, m0_0, m0_1⟩ := d
  exact (show _ = lawTexts_M1_t s1 m0_1 (fun x => k (lawTexts_M1_fin (s1, s5, m0_0, m0_1) x).1 (lawTexts_M1_fin (s1, s5, m0_0, m0_1) x).2) from by kernel_rfl).trans (lawTexts_M1_t_eq s1 m0_1 _)
noncomputable def lawTexts_M1_sp : CSpec := fun _ st k => reNorm 0 lawTexts_M1_N lawTexts_M1_A lawTexts_M1_H st fun a m => outOf (lawTexts_M1 (lawTexts_M1_to a m).1 (lawTexts_M1_to a m).2.2.2) fun v => sumOf v (fun v => k .ret ⟨[.any, .any, .any, .any, .lit (.bool (lawTexts_M1_to a m).2.1), .any, .any, .any, .any, .any, .any, .any, .any, .any, .any, .any, .any, .any, .any, .any, .any, .any, .any, .any, .any, .any, .any, .any, .any, .any, .any, .any, .any, .any, .any, .any, .any, .any, .any, .any, .any, .any, .any, .any, .any, .any, .any, .any, .any, .any, .any, .any, .any, .any, .any, .any, .any, .any, .any, .any, .any, .any, .any, .any, .any, .any, .any, .any, .any, .any, .any, .any, .any, .any, .any, .any, .any, .any, .any, .any, .any, .any, .any, .any, .any, .any, .any, .any, .any, .any, .any, .any, .any, .any, .any, .any, .any, .any, .any, .any, .any, .any, .any, .any, .any, .any, .any, .any, .any, .any, .any, .any, .any, .any, .any, .any, .any, .any, .any, .any, .any, .any, .any, .any, .any, .any, .any], []⟩) (fun v => k .normal ⟨[.any, .lit (.int .i64 (lawTexts_M1_to a m).1), .ptr 0 0 0, .any, .any, .lit (.bool (lawTexts_M1_to a m).2.1), .any, .any, .any, .any, .any, .any, .any, .any, .any, .any, .any, .any, .any, .any, .any, .any, .any, .any, .any, .any, .any, .any, .any, .any, .any, .any, .any, .any, .any, .any, .any, .any, .any, .any, .any, .any, .any, .any, .any, .any, .any, .any, .any, .any, .any, .any, .any, .any, .any, .any, .any, .any, .any, .any, .any, .any, .any, .any, .any, .any, .any, .any, .any, .any, .any, .any, .any, .any, .any, .any, .any, .any, .any, .any, .any, .any, .any, .any, .any, .any, .any, .any, .any, .any, .any, .any, .any, .any, .any, .any, .any, .any, .any, .any, .any, .any, .any, .any, .any, .any, .any, .any, .any, .any, .any, .any, .any, .any, .any, .any, .any, .any, .any, .any, .any, .any, .any, .any, .any, .any, .any], [.box [.lit (.int .i64 (lawTexts_M1_to a m).2.2.1), .lit (.int .i64 (lawTexts_M1_to a m).2.2.2)]]⟩)
theorem lawTexts_M1_ok : SumOK Tryd.prog 0 ((codeAt (bodyOf Tryd.f13) [0, 1, 1]).getD .skip) lawTexts_M1_sp := (SumOK.once NrJE9_ok mixed lawTexts_h0_ok (show codeAt (bodyOf Tryd.f13) [0, 1, 1] = some ((codeAt (bodyOf Tryd.f13) [0, 1, 1]).getD .skip) from by kernel_rfl) (N := lawTexts_M1_N) (Nx := lawTexts_M1_X) (A := lawTexts_M1_A) (Hs := lawTexts_M1_H) (toD := lawTexts_M1_to) (ofA := lawTexts_M1_ofA) (ofH := lawTexts_M1_ofH) (fun _ _ => rfl) (fun _ _ => rfl) (M := fun d => lawTexts_M1 d.1 d.2.2.2) (fin := lawTexts_M1_fin) 60 lawTexts_M1_ev).mono fun α st k r h => by
  refine Eq.trans (congrArg (reNorm 0 lawTexts_M1_N lawTexts_M1_A lawTexts_M1_H st) ?_) h
  funext a m
  exact outOf_congr fun x => by rcases x with x | x <;> rfl
noncomputable def lawTexts_M1_h : Hints := lawTexts_h0.add [0, 1, 1] lawTexts_M1_sp
theorem lawTexts_M1_h_ok : lawTexts_M1_h.OK Tryd.prog (bodyOf Tryd.f13) := lawTexts_h0_ok.add (show codeAt (bodyOf Tryd.f13) [0, 1, 1] = some ((codeAt (bodyOf Tryd.f13) [0, 1, 1]).getD .skip) from by kernel_rfl) lawTexts_M1_ok
abbrev lawTexts_R : Type := (Bool)
noncomputable def lawTexts_t {γ : Type} (a0_0 : Int) (a0_1 : Int) (a1 : Int) (k : lawTexts_R → Option γ) : Option γ := outOf law10_awake fun (x3 : Bool) => outOf (lawTexts_M1 a1 a0_1) fun (x4 : Unit ⊕ Unit) => sumOf x4 (fun x5 => k (x3)) (fun x6 => outOf (law_ready a1) fun (x7 : (List Int)) => outOf (pic_All x7 (0 : Int) a0_0 a0_1) fun (x8 : ((List Int) × (Int × (Int × Int)))) => outOf (num_DText a0_0 a0_1 a1) fun (x9 : ByteArray) => cond (decide ((↑(ByteArray.size x9) : Int) > (96 : Int))) (cond x3 (k (Prod.snd (Prod.snd (Prod.snd x8)) == (-17 : Int))) (k (false))) (outOf (pic_Sign (Prod.fst x8) (0 : Int) (-1 : Int)) fun (x10 : ((List Int) × Int)) => outOf (pic_End (Prod.fst x8) (0 : Int)) fun (x11 : (Int × (Int × Int))) => outOf (pic_End (Prod.fst x10) (0 : Int)) fun (x12 : (Int × (Int × Int))) => outOf (mem_Text (Prod.fst x8) (Prod.fst x11) (Prod.fst (Prod.snd x11))) fun (x13 : (ByteArray × Int)) => outOf (mem_Text (Prod.fst x10) (Prod.fst x12) (Prod.fst (Prod.snd x12))) fun (x14 : (ByteArray × Int)) => cond x3 (cond (Prod.snd (Prod.snd (Prod.snd x8)) == (0 : Int)) (cond (Prod.fst (Prod.snd x8) == (0 : Int) && (Prod.fst (Prod.snd (Prod.snd x8)) == (0 : Int) && true)) (cond (Prod.snd (Prod.snd x11) == (0 : Int)) (cond (ByteArray.toList (Prod.fst x13) == ByteArray.toList x9) (cond (Prod.snd (Prod.snd x12) == (0 : Int)) (cond (Prod.snd x10 == (0 : Int)) (cond (decide ((↑((1 : Nat) + ByteArray.size x9) : Int) > (9223372036854775807 : Int))) (none) (cond (ByteArray.toList (Prod.fst x14) == ByteArray.toList (bytesOf [45] ++ x9)) (k (true)) (cond (Prod.snd x10 == (-17 : Int)) (k ((↑(ByteArray.size x9) : Int) == (96 : Int))) (k (false))))) (cond (Prod.snd x10 == (-17 : Int)) (k ((↑(ByteArray.size x9) : Int) == (96 : Int))) (k (false)))) (k (false))) (k (false))) (k (false))) (k (false))) (k (false))) (k (false))))
noncomputable def lawTexts (a0_0 : Int) (a0_1 : Int) (a1 : Int) : Option lawTexts_R := lawTexts_t a0_0 a0_1 a1 some
theorem lawTexts_t_eq {γ : Type} (a0_0 : Int) (a0_1 : Int) (a1 : Int) (k : lawTexts_R → Option γ) : lawTexts_t a0_0 a0_1 a1 k = outOf (lawTexts a0_0 a0_1 a1) k := by
  delta lawTexts lawTexts_t; exact (Tr.bd fun x3 => (Tr.bd fun x4 => (Tr.cs (fun x5 => Tr.lf) (fun x6 => (Tr.bd fun x7 => (Tr.bd fun x8 => (Tr.bd fun x9 => (Tr.nd (Tr.nd Tr.lf Tr.lf) (Tr.bd fun x10 => (Tr.bd fun x11 => (Tr.bd fun x12 => (Tr.bd fun x13 => (Tr.bd fun x14 => (Tr.nd (Tr.nd (Tr.nd (Tr.nd (Tr.nd (Tr.nd (Tr.nd (Tr.nd Tr.no (Tr.nd Tr.lf (Tr.nd Tr.lf Tr.lf))) (Tr.nd Tr.lf Tr.lf)) Tr.lf) Tr.lf) Tr.lf) Tr.lf) Tr.lf) Tr.lf))))))))))))))
noncomputable def lawTexts_sp : TX.Spec := specD [.agg (.pair (.int .i64) (.int .i64)), .val (.int .i64)] [] fun _ a m k => match a, m with | ⟨⟨a0_0, a0_1⟩, a1, _⟩, _ => outOf (lawTexts a0_0 a0_1 a1) fun v => k (.lit (.bool v)) []
theorem lawTexts_ev {α : Type} (a0_0 : Int) (a0_1 : Int) (a1 : Int) (k : Kont α) : evFun Tryd.prog NrJE9 (lawTexts_M1_h) false Tryd.f13 (bodyOf Tryd.f13) 60 (mkS [.agg (.pair (.int .i64) (.int .i64)), .val (.int .i64)] ((a0_0, a0_1), a1, ())) (mkH [] ()) k = outOf (lawTexts a0_0 a0_1 a1) fun v => k (.lit (.bool v)) [] :=
  (show _ = lawTexts_t a0_0 a0_1 a1 (fun v => k (.lit (.bool v)) []) from by kernel_rfl).trans (lawTexts_t_eq a0_0 a0_1 a1 _)
theorem lawTexts_good : TX.Good Tryd.prog 13 lawTexts_sp := good_form NrJE9_ok mixed Tryd.func13 (body_of rfl) (by kernel_rfl) false fun α a m k r h => by
  obtain ⟨⟨a0_0, a0_1⟩, a1, _⟩ := a; obtain _ := m
  exact ⟨lawTexts_M1_h, 60, lawTexts_M1_h_ok, rfl, (lawTexts_ev a0_0 a0_1 a1 k).trans h⟩
noncomputable def NrJE10 : Env := NrJE9.add 13 true lawTexts_sp
theorem NrJE10_ok : NrJE10.OK Tryd.prog := (NrJE9_ok).add_ok lawTexts_good
end Go.Proofs.Dbl
