import Derived.Test.YtbcijnfednjohaaGreatPzXF
import Derived.Test.YtbcijnfednjohaaGreatPzXR
namespace Go.Proofs.Dbl
open Go Go.TX Go.Proofs
set_option maxRecDepth 100000
set_option linter.unusedVariables false
set_option maxHeartbeats 0
noncomputable def RL : Env := Q2.add 6 true r9_Do_sp |>.add 8 true r9_All_sp
theorem RL_ok : RL.OK Tryz.prog := ((Q2_ok).add_ok r9_Do_good).add_ok r9_All_good
def lawPureIs_h0 : Hints := Hints.nil 0
theorem lawPureIs_h0_ok : lawPureIs_h0.OK Tryz.prog (bodyOf Tryz.f3) := Hints.nil_ok
def lawPureIs_M1_A : List SD := [.val (.int .i64), .val (.sl (.int .i64)), .val (.sl (.int .i64)), .any, .any, .any, .any, .val .bool, .any, .any, .any, .any, .any, .any, .any, .any, .any, .any, .any, .any, .any, .any, .any, .any, .any, .any, .any, .any, .any, .any, .any, .any, .any, .any, .any, .any, .any, .any, .any, .any, .any, .any, .any, .any, .any, .any, .any, .any, .any, .any, .any, .any, .any, .any, .any, .any, .any, .any, .any, .any, .any, .any, .any, .any, .any, .any, .any, .any, .any, .any, .any]
def lawPureIs_M1_H : List HD := []
abbrev lawPureIs_M1_D : Type := Int × (List Int) × (List Int) × Bool
def lawPureIs_M1_to (a : DenS lawPureIs_M1_A) (m : DenH lawPureIs_M1_H) : lawPureIs_M1_D := (a.1, a.2.1, a.2.2.1, a.2.2.2.2.2.2.2.1)
def lawPureIs_M1_ofA (d : lawPureIs_M1_D) : DenS lawPureIs_M1_A := match d with | (s0, s1, s2, s7) => (s0, s1, s2, (), (), (), (), s7, (), (), (), (), (), (), (), (), (), (), (), (), (), (), (), (), (), (), (), (), (), (), (), (), (), (), (), (), (), (), (), (), (), (), (), (), (), (), (), (), (), (), (), (), (), (), (), (), (), (), (), (), (), (), (), (), (), (), (), (), (), (), (), ())
def lawPureIs_M1_ofH (d : lawPureIs_M1_D) : DenH lawPureIs_M1_H := match d with | (s0, s1, s2, s7) => ()
def lawPureIs_M1_N : Norm := (⟨[0, 1, 2, 7], [], []⟩ : Go.TX.Norm)
def lawPureIs_M1_X : Exit → Norm := fun e => match e with | .normal => ⟨[0, 1, 2, 7], [], []⟩ | .ret => ⟨[6], [], []⟩ | _ => ⟨[], [], []⟩
abbrev lawPureIs_M1_R : Type := ((Unit) ⊕ (Unit))
def lawPureIs_M1_fin (d : lawPureIs_M1_D) (v : lawPureIs_M1_R) : Exit × St := sumOf v (fun v => (.ret, ⟨[.any, .any, .any, .any, .any, .any, .lit (.bool d.2.2.2), .any, .any, .any, .any, .any, .any, .any, .any, .any, .any, .any, .any, .any, .any, .any, .any, .any, .any, .any, .any, .any, .any, .any, .any, .any, .any, .any, .any, .any, .any, .any, .any, .any, .any, .any, .any, .any, .any, .any, .any, .any, .any, .any, .any, .any, .any, .any, .any, .any, .any, .any, .any, .any, .any, .any, .any, .any, .any, .any, .any, .any, .any, .any, .any], []⟩)) (fun v => (.normal, ⟨[.lit (.int .i64 d.1), .sl (.int .i64) d.2.1 false, .sl (.int .i64) d.2.2.1 false, .any, .any, .any, .any, .lit (.bool d.2.2.2), .any, .any, .any, .any, .any, .any, .any, .any, .any, .any, .any, .any, .any, .any, .any, .any, .any, .any, .any, .any, .any, .any, .any, .any, .any, .any, .any, .any, .any, .any, .any, .any, .any, .any, .any, .any, .any, .any, .any, .any, .any, .any, .any, .any, .any, .any, .any, .any, .any, .any, .any, .any, .any, .any, .any, .any, .any, .any, .any, .any, .any, .any, .any], []⟩))
noncomputable def lawPureIs_M1_t {γ : Type} (s1 : (List Int)) (s2 : (List Int)) (k : lawPureIs_M1_R → Option γ) : Option γ := cond (decide ((↑(List.length s1) : Int) > (40 : Int))) (k (.inl ())) (cond (decide ((↑(List.length s2) : Int) > (100 : Int))) (k (.inl ())) (k (.inr ())))
noncomputable def lawPureIs_M1 (s1 : (List Int)) (s2 : (List Int)) : Option lawPureIs_M1_R := lawPureIs_M1_t s1 s2 some
theorem lawPureIs_M1_t_eq {γ : Type} (s1 : (List Int)) (s2 : (List Int)) (k : lawPureIs_M1_R → Option γ) : lawPureIs_M1_t s1 s2 k = outOf (lawPureIs_M1 s1 s2) k := by
  delta lawPureIs_M1 lawPureIs_M1_t; exact (Tr.nd Tr.lf (Tr.nd Tr.lf Tr.lf))
theorem lawPureIs_M1_ev (α : Type) (d : lawPureIs_M1_D) (k : Exit → St → Option α) : ev Tryz.prog RL lawPureIs_h0 60 [0, 1, 1] ((codeAt (bodyOf Tryz.f3) [0, 1, 1]).getD .skip) ⟨mkS lawPureIs_M1_A (lawPureIs_M1_ofA d), mkH lawPureIs_M1_H (lawPureIs_M1_ofH d)⟩ (exitN 0 lawPureIs_M1_X k) = outOf (lawPureIs_M1 d.2.1 d.2.2.1) fun x => k (lawPureIs_M1_fin d x).1 (lawPureIs_M1_fin d x).2 := by
  obtain ⟨s0, s1, s2, s7⟩ := d
  exact (show _ = lawPureIs_M1_t s1 s2 (fun x => k (lawPureIs_M1_fin (s0, s1, s2, s7) x).1 (lawPureIs_M1_fin (s0, s1, s2, s7) x).2) from by kernel_rfl).trans (lawPureIs_M1_t_eq s1 s2 _)
noncomputable def lawPureIs_M1_sp : CSpec := fun _ st k => reNorm 0 lawPureIs_M1_N lawPureIs_M1_A lawPureIs_M1_H st fun a m => outOf (lawPureIs_M1 (lawPureIs_M1_to a m).2.1 (lawPureIs_M1_to a m).2.2.1) fun v => sumOf v (fun v => k .ret ⟨[.any, .any, .any, .any, .any, .any, .lit (.bool (lawPureIs_M1_to a m).2.2.2), .any, .any, .any, .any, .any, .any, .any, .any, .any, .any, .any, .any, .any, .any, .any, .any, .any, .any, .any, .any, .any, .any, .any, .any, .any, .any, .any, .any, .any, .any, .any, .any, .any, .any, .any, .any, .any, .any, .any, .any, .any, .any, .any, .any, .any, .any, .any, .any, .any, .any, .any, .any, .any, .any, .any, .any, .any, .any, .any, .any, .any, .any, .any, .any], []⟩) (fun v => k .normal ⟨[.lit (.int .i64 (lawPureIs_M1_to a m).1), .sl (.int .i64) (lawPureIs_M1_to a m).2.1 false, .sl (.int .i64) (lawPureIs_M1_to a m).2.2.1 false, .any, .any, .any, .any, .lit (.bool (lawPureIs_M1_to a m).2.2.2), .any, .any, .any, .any, .any, .any, .any, .any, .any, .any, .any, .any, .any, .any, .any, .any, .any, .any, .any, .any, .any, .any, .any, .any, .any, .any, .any, .any, .any, .any, .any, .any, .any, .any, .any, .any, .any, .any, .any, .any, .any, .any, .any, .any, .any, .any, .any, .any, .any, .any, .any, .any, .any, .any, .any, .any, .any, .any, .any, .any, .any, .any, .any], []⟩)
theorem lawPureIs_M1_ok : SumOK Tryz.prog 0 ((codeAt (bodyOf Tryz.f3) [0, 1, 1]).getD .skip) lawPureIs_M1_sp := (SumOK.once RL_ok mixed lawPureIs_h0_ok (show codeAt (bodyOf Tryz.f3) [0, 1, 1] = some ((codeAt (bodyOf Tryz.f3) [0, 1, 1]).getD .skip) from by kernel_rfl) (N := lawPureIs_M1_N) (Nx := lawPureIs_M1_X) (A := lawPureIs_M1_A) (Hs := lawPureIs_M1_H) (toD := lawPureIs_M1_to) (ofA := lawPureIs_M1_ofA) (ofH := lawPureIs_M1_ofH) (fun _ _ => rfl) (fun _ _ => rfl) (M := fun d => lawPureIs_M1 d.2.1 d.2.2.1) (fin := lawPureIs_M1_fin) 60 lawPureIs_M1_ev).mono fun α st k r h => by
  refine Eq.trans (congrArg (reNorm 0 lawPureIs_M1_N lawPureIs_M1_A lawPureIs_M1_H st) ?_) h
  funext a m
  exact outOf_congr fun x => by rcases x with x | x <;> rfl
noncomputable def lawPureIs_M1_h : Hints := lawPureIs_h0.add [0, 1, 1] lawPureIs_M1_sp
theorem lawPureIs_M1_h_ok : lawPureIs_M1_h.OK Tryz.prog (bodyOf Tryz.f3) := lawPureIs_h0_ok.add (show codeAt (bodyOf Tryz.f3) [0, 1, 1] = some ((codeAt (bodyOf Tryz.f3) [0, 1, 1]).getD .skip) from by kernel_rfl) lawPureIs_M1_ok
abbrev lawPureIs_R : Type := (Bool)
noncomputable def lawPureIs_t {γ : Type} (a0 : Int) (a1 : (List Int)) (a2 : (List Int)) (k : lawPureIs_R → Option γ) : Option γ := outOf law_awake fun (x3 : Bool) => outOf (lawPureIs_M1 a1 a2) fun (x4 : Unit ⊕ Unit) => sumOf x4 (fun x5 => k (x3)) (fun x6 => outOf (pure_Do a0 a2) fun (x7 : ((List Int) × Int)) => outOf (r9_Do a0 a2) fun (x8 : ((List Int) × Int)) => outOf (pure_All a1 a2) fun (x9 : ((List Int) × Int)) => outOf (r9_All a1 a2) fun (x10 : ((List Int) × Int)) => cond x3 (outOf (ref_Same (Prod.fst x7) (Prod.fst x8)) fun (x11 : Bool) => cond x11 (cond (Prod.snd x7 == Prod.snd x8) (outOf (ref_Same (Prod.fst x9) (Prod.fst x10)) fun (x12 : Bool) => cond x12 (k (Prod.snd x9 == Prod.snd x10)) (k (false))) (k (false))) (k (false))) (k (false)))
noncomputable def lawPureIs (a0 : Int) (a1 : (List Int)) (a2 : (List Int)) : Option lawPureIs_R := lawPureIs_t a0 a1 a2 some
theorem lawPureIs_t_eq {γ : Type} (a0 : Int) (a1 : (List Int)) (a2 : (List Int)) (k : lawPureIs_R → Option γ) : lawPureIs_t a0 a1 a2 k = outOf (lawPureIs a0 a1 a2) k := by
  delta lawPureIs lawPureIs_t; exact (Tr.bd fun x3 => (Tr.bd fun x4 => (Tr.cs (fun x5 => Tr.lf) (fun x6 => (Tr.bd fun x7 => (Tr.bd fun x8 => (Tr.bd fun x9 => (Tr.bd fun x10 => (Tr.nd (Tr.bd fun x11 => (Tr.nd (Tr.nd (Tr.bd fun x12 => (Tr.nd Tr.lf Tr.lf)) Tr.lf) Tr.lf)) Tr.lf)))))))))
noncomputable def lawPureIs_sp : TX.Spec := specD [.val (.int .i64), .val (.sl (.int .i64)), .val (.sl (.int .i64))] [] fun _ a m k => match a, m with | ⟨a0, a1, a2, _⟩, _ => outOf (lawPureIs a0 a1 a2) fun v => k (.lit (.bool v)) []
theorem lawPureIs_ev {α : Type} (a0 : Int) (a1 : (List Int)) (a2 : (List Int)) (k : Kont α) : evFun Tryz.prog RL (lawPureIs_M1_h) false Tryz.f3 (bodyOf Tryz.f3) 60 (mkS [.val (.int .i64), .val (.sl (.int .i64)), .val (.sl (.int .i64))] (a0, a1, a2, ())) (mkH [] ()) k = outOf (lawPureIs a0 a1 a2) fun v => k (.lit (.bool v)) [] :=
  (show _ = lawPureIs_t a0 a1 a2 (fun v => k (.lit (.bool v)) []) from by kernel_rfl).trans (lawPureIs_t_eq a0 a1 a2 _)
theorem lawPureIs_good : TX.Good Tryz.prog 3 lawPureIs_sp := good_form RL_ok mixed Tryz.func3 (body_of rfl) (by kernel_rfl) false fun α a m k r h => by
  obtain ⟨a0, a1, a2, _⟩ := a; obtain _ := m
  exact ⟨lawPureIs_M1_h, 60, lawPureIs_M1_h_ok, rfl, (lawPureIs_ev a0 a1 a2 k).trans h⟩
noncomputable def PzSE1 : Env := RL.add 3 true lawPureIs_sp
theorem PzSE1_ok : PzSE1.OK Tryz.prog := (RL_ok).add_ok lawPureIs_good
end Go.Proofs.Dbl
