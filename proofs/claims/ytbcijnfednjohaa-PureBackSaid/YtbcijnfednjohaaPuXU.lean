import Derived.Test.YtbcijnfednjohaaPuXF
namespace Go.Proofs.Dbl
open Go Go.TX Go.Proofs
set_option maxRecDepth 100000
set_option linter.unusedVariables false
set_option maxHeartbeats 0
/-! f5 tenterhook/tenterhooklaw09.PureBack -/
def lawBackP_h0 : Hints := Hints.nil 0
theorem lawBackP_h0_ok : lawBackP_h0.OK Try.prog (bodyOf Try.f5) := Hints.nil_ok
def lawBackP_M1_A : List SD := [.val (.sl (.int .i64)), .any, .any, .val .bool, .any, .any, .any, .any, .any, .any, .any, .any, .any, .any, .any, .any, .any, .any, .any, .any, .any, .any, .any, .any, .any, .any, .any, .any, .any, .any, .any, .any, .any, .any, .any, .any, .any, .any, .any, .any, .any, .any, .any, .any, .any, .any, .any, .any, .any]
def lawBackP_M1_H : List HD := []
abbrev lawBackP_M1_D : Type := (List Int) × Bool
def lawBackP_M1_to (a : DenS lawBackP_M1_A) (m : DenH lawBackP_M1_H) : lawBackP_M1_D := (a.1, a.2.2.2.1)
def lawBackP_M1_ofA (d : lawBackP_M1_D) : DenS lawBackP_M1_A := match d with | (s0, s3) => (s0, (), (), s3, (), (), (), (), (), (), (), (), (), (), (), (), (), (), (), (), (), (), (), (), (), (), (), (), (), (), (), (), (), (), (), (), (), (), (), (), (), (), (), (), (), (), (), (), (), ())
def lawBackP_M1_ofH (d : lawBackP_M1_D) : DenH lawBackP_M1_H := match d with | (s0, s3) => ()
def lawBackP_M1_N : Norm := (⟨[0, 3], [], []⟩ : Go.TX.Norm)
def lawBackP_M1_X : Exit → Norm := fun e => match e with | .normal => ⟨[0, 3], [], []⟩ | .ret => ⟨[2], [], []⟩ | _ => ⟨[], [], []⟩
abbrev lawBackP_M1_R : Type := ((Unit) ⊕ (Unit))
def lawBackP_M1_fin (d : lawBackP_M1_D) (v : lawBackP_M1_R) : Exit × St := sumOf v (fun v => (.ret, ⟨[.any, .any, .lit (.bool d.2), .any, .any, .any, .any, .any, .any, .any, .any, .any, .any, .any, .any, .any, .any, .any, .any, .any, .any, .any, .any, .any, .any, .any, .any, .any, .any, .any, .any, .any, .any, .any, .any, .any, .any, .any, .any, .any, .any, .any, .any, .any, .any, .any, .any, .any, .any], []⟩)) (fun v => (.normal, ⟨[.sl (.int .i64) d.1 false, .any, .any, .lit (.bool d.2), .any, .any, .any, .any, .any, .any, .any, .any, .any, .any, .any, .any, .any, .any, .any, .any, .any, .any, .any, .any, .any, .any, .any, .any, .any, .any, .any, .any, .any, .any, .any, .any, .any, .any, .any, .any, .any, .any, .any, .any, .any, .any, .any, .any, .any], []⟩))
noncomputable def lawBackP_M1_t {γ : Type} (s0 : (List Int)) (k : lawBackP_M1_R → Option γ) : Option γ := cond (decide ((↑(List.length s0) : Int) > (64 : Int))) (k (.inl ())) (cond (decide ((↑(List.length s0) : Int) < (4 : Int))) (k (.inl ())) (k (.inr ())))
noncomputable def lawBackP_M1 (s0 : (List Int)) : Option lawBackP_M1_R := lawBackP_M1_t s0 some
theorem lawBackP_M1_t_eq {γ : Type} (s0 : (List Int)) (k : lawBackP_M1_R → Option γ) : lawBackP_M1_t s0 k = outOf (lawBackP_M1 s0) k := by
  delta lawBackP_M1 lawBackP_M1_t; exact (Tr.nd Tr.lf (Tr.nd Tr.lf Tr.lf))
theorem lawBackP_M1_ev (α : Type) (d : lawBackP_M1_D) (k : Exit → St → Option α) : ev Try.prog Q2 lawBackP_h0 60 [0, 1, 1] ((codeAt (bodyOf Try.f5) [0, 1, 1]).getD .skip) ⟨mkS lawBackP_M1_A (lawBackP_M1_ofA d), mkH lawBackP_M1_H (lawBackP_M1_ofH d)⟩ (exitN 0 lawBackP_M1_X k) = outOf (lawBackP_M1 d.1) fun x => k (lawBackP_M1_fin d x).1 (lawBackP_M1_fin d x).2 := by
  obtain ⟨s0, s3⟩ := d
  exact (show _ = lawBackP_M1_t s0 (fun x => k (lawBackP_M1_fin (s0, s3) x).1 (lawBackP_M1_fin (s0, s3) x).2) from by kernel_rfl).trans (lawBackP_M1_t_eq s0 _)
noncomputable def lawBackP_M1_sp : CSpec := fun _ st k => reNorm 0 lawBackP_M1_N lawBackP_M1_A lawBackP_M1_H st fun a m => outOf (lawBackP_M1 (lawBackP_M1_to a m).1) fun v => sumOf v (fun v => k .ret ⟨[.any, .any, .lit (.bool (lawBackP_M1_to a m).2), .any, .any, .any, .any, .any, .any, .any, .any, .any, .any, .any, .any, .any, .any, .any, .any, .any, .any, .any, .any, .any, .any, .any, .any, .any, .any, .any, .any, .any, .any, .any, .any, .any, .any, .any, .any, .any, .any, .any, .any, .any, .any, .any, .any, .any, .any], []⟩) (fun v => k .normal ⟨[.sl (.int .i64) (lawBackP_M1_to a m).1 false, .any, .any, .lit (.bool (lawBackP_M1_to a m).2), .any, .any, .any, .any, .any, .any, .any, .any, .any, .any, .any, .any, .any, .any, .any, .any, .any, .any, .any, .any, .any, .any, .any, .any, .any, .any, .any, .any, .any, .any, .any, .any, .any, .any, .any, .any, .any, .any, .any, .any, .any, .any, .any, .any, .any], []⟩)
theorem lawBackP_M1_ok : SumOK Try.prog 0 ((codeAt (bodyOf Try.f5) [0, 1, 1]).getD .skip) lawBackP_M1_sp := (SumOK.once Q2_ok mixed lawBackP_h0_ok (show codeAt (bodyOf Try.f5) [0, 1, 1] = some ((codeAt (bodyOf Try.f5) [0, 1, 1]).getD .skip) from by kernel_rfl) (N := lawBackP_M1_N) (Nx := lawBackP_M1_X) (A := lawBackP_M1_A) (Hs := lawBackP_M1_H) (toD := lawBackP_M1_to) (ofA := lawBackP_M1_ofA) (ofH := lawBackP_M1_ofH) (fun _ _ => rfl) (fun _ _ => rfl) (M := fun d => lawBackP_M1 d.1) (fin := lawBackP_M1_fin) 60 lawBackP_M1_ev).mono fun α st k r h => by
  refine Eq.trans (congrArg (reNorm 0 lawBackP_M1_N lawBackP_M1_A lawBackP_M1_H st) ?_) h
  funext a m
  exact outOf_congr fun x => by rcases x with x | x <;> rfl
noncomputable def lawBackP_M1_h : Hints := lawBackP_h0.add [0, 1, 1] lawBackP_M1_sp
theorem lawBackP_M1_h_ok : lawBackP_M1_h.OK Try.prog (bodyOf Try.f5) := lawBackP_h0_ok.add (show codeAt (bodyOf Try.f5) [0, 1, 1] = some ((codeAt (bodyOf Try.f5) [0, 1, 1]).getD .skip) from by kernel_rfl) lawBackP_M1_ok
abbrev lawBackP_R : Type := (Bool)
noncomputable def lawBackP_t {γ : Type} (a0 : (List Int)) (k : lawBackP_R → Option γ) : Option γ := outOf law_awake fun (x3 : Bool) => outOf (lawBackP_M1 a0) fun (x4 : Unit ⊕ Unit) => sumOf x4 (fun x5 => k (x3)) (fun x6 => outOf (pure_All [(20 : Int), (20 : Int), (22 : Int), (22 : Int), (22 : Int), (45 : Int), (45 : Int), (52 : Int), (52 : Int), (70 : Int), (70 : Int), (27 : Int), (27 : Int)] a0) fun (x7 : ((List Int) × Int)) => outOf (pure_All [(41 : Int), (42 : Int), (72 : Int), (42 : Int), (42 : Int), (42 : Int), (42 : Int), (42 : Int), (42 : Int), (42 : Int), (42 : Int)] a0) fun (x8 : ((List Int) × Int)) => cond x3 (cond (Prod.snd x7 == (0 : Int)) (cond (Prod.snd x8 == (0 : Int)) (outOf (ref_Same (Prod.fst x7) a0) fun (x9 : Bool) => cond x9 (outOf (ref_Same (Prod.fst x8) a0) fun (x10 : Bool) => k (x10)) (k (false))) (k (false))) (k (false))) (k (false)))
noncomputable def lawBackP (a0 : (List Int)) : Option lawBackP_R := lawBackP_t a0 some
theorem lawBackP_t_eq {γ : Type} (a0 : (List Int)) (k : lawBackP_R → Option γ) : lawBackP_t a0 k = outOf (lawBackP a0) k := by
  delta lawBackP lawBackP_t; exact (Tr.bd fun x3 => (Tr.bd fun x4 => (Tr.cs (fun x5 => Tr.lf) (fun x6 => (Tr.bd fun x7 => (Tr.bd fun x8 => (Tr.nd (Tr.nd (Tr.nd (Tr.bd fun x9 => (Tr.nd (Tr.bd fun x10 => Tr.lf) Tr.lf)) Tr.lf) Tr.lf) Tr.lf)))))))
noncomputable def lawBackP_sp : TX.Spec := specD [.val (.sl (.int .i64))] [] fun _ a m k => match a, m with | ⟨a0, _⟩, _ => outOf (lawBackP a0) fun v => k (.lit (.bool v)) []
theorem lawBackP_ev {α : Type} (a0 : (List Int)) (k : Kont α) : evFun Try.prog Q2 (lawBackP_M1_h) false Try.f5 (bodyOf Try.f5) 60 (mkS [.val (.sl (.int .i64))] (a0, ())) (mkH [] ()) k = outOf (lawBackP a0) fun v => k (.lit (.bool v)) [] :=
  (show _ = lawBackP_t a0 (fun v => k (.lit (.bool v)) []) from by kernel_rfl).trans (lawBackP_t_eq a0 _)
theorem lawBackP_good : TX.Good Try.prog 5 lawBackP_sp := good_form Q2_ok mixed Try.func5 (body_of rfl) (by kernel_rfl) false fun α a m k r h => by
  obtain ⟨a0, _⟩ := a; obtain _ := m
  exact ⟨lawBackP_M1_h, 60, lawBackP_M1_h_ok, rfl, (lawBackP_ev a0 k).trans h⟩
end Go.Proofs.Dbl
