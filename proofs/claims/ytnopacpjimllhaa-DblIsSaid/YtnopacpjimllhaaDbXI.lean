import Derived.Test.YtnopacpjimllhaaDbXR
namespace Go.Proofs.Dbl
open Go Go.TX Go.Proofs
set_option maxRecDepth 100000
set_option linter.unusedVariables false
set_option maxHeartbeats 0
/-! f8 tenterhook/tenterhooklaw02.DblIs -/
def lawIs_h0 : Hints := Hints.nil 0
theorem lawIs_h0_ok : lawIs_h0.OK Try.prog (bodyOf Try.f8) := Hints.nil_ok
abbrev lawIs_R : Type := (Bool)
noncomputable def lawIs_t {γ : Type} (a0_0 : Int) (a0_1 : Int) (a1_0 : Int) (a1_1 : Int) (a2 : Int) (a3 : Int) (k : lawIs_R → Option γ) : Option γ := outOf awake2 fun (x1 : Bool) => cond x1 (outOf (ref_Of a2) fun (x2 : (Int × Int)) => cond (Prod.fst (dbl_Of a2) == Prod.fst x2 && (Prod.snd (dbl_Of a2) == Prod.snd x2 && true)) (outOf (dbl_Add a0_0 a0_1 a1_0 a1_1) fun (x3 : (Int × Int)) => outOf (ref_Add a0_0 a0_1 a1_0 a1_1) fun (x4 : (Int × Int)) => cond (Prod.fst x3 == Prod.fst x4 && (Prod.snd x3 == Prod.snd x4 && true)) (outOf (dbl_Neg a0_0 a0_1) fun (x5 : (Int × Int)) => outOf (ref_Neg a0_0 a0_1) fun (x6 : (Int × Int)) => cond (Prod.fst x5 == Prod.fst x6 && (Prod.snd x5 == Prod.snd x6 && true)) (outOf (dbl_Cmp a0_0 a0_1 a1_0 a1_1) fun (x7 : Int) => outOf (ref_Cmp a0_0 a0_1 a1_0 a1_1) fun (x8 : Int) => cond (x7 == x8) (outOf (ref_UMul a2 a3) fun (x9 : (Int × Int)) => cond (Prod.fst (dbl_UMul a2 a3) == Prod.fst x9 && (Prod.snd (dbl_UMul a2 a3) == Prod.snd x9 && true)) (outOf (dbl_Mul a2 a3) fun (x10 : (Int × Int)) => outOf (ref_Mul a2 a3) fun (x11 : (Int × Int)) => k (Prod.fst x10 == Prod.fst x11 && (Prod.snd x10 == Prod.snd x11 && true))) (k (false))) (k (false))) (k (false))) (k (false))) (k (false))) (k (false))
noncomputable def lawIs (a0_0 : Int) (a0_1 : Int) (a1_0 : Int) (a1_1 : Int) (a2 : Int) (a3 : Int) : Option lawIs_R := lawIs_t a0_0 a0_1 a1_0 a1_1 a2 a3 some
theorem lawIs_t_eq {γ : Type} (a0_0 : Int) (a0_1 : Int) (a1_0 : Int) (a1_1 : Int) (a2 : Int) (a3 : Int) (k : lawIs_R → Option γ) : lawIs_t a0_0 a0_1 a1_0 a1_1 a2 a3 k = outOf (lawIs a0_0 a0_1 a1_0 a1_1 a2 a3) k := by
  delta lawIs lawIs_t; exact (Tr.bd fun x1 => (Tr.nd (Tr.bd fun x2 => (Tr.nd (Tr.bd fun x3 => (Tr.bd fun x4 => (Tr.nd (Tr.bd fun x5 => (Tr.bd fun x6 => (Tr.nd (Tr.bd fun x7 => (Tr.bd fun x8 => (Tr.nd (Tr.bd fun x9 => (Tr.nd (Tr.bd fun x10 => (Tr.bd fun x11 => Tr.lf)) Tr.lf)) Tr.lf))) Tr.lf))) Tr.lf))) Tr.lf)) Tr.lf))
noncomputable def lawIs_sp : TX.Spec := specD [.agg (.pair (.int .i64) (.int .i64)), .agg (.pair (.int .i64) (.int .i64)), .val (.int .i64), .val (.int .i64)] [] fun _ a m k => match a, m with | ⟨⟨a0_0, a0_1⟩, ⟨a1_0, a1_1⟩, a2, a3, _⟩, _ => outOf (lawIs a0_0 a0_1 a1_0 a1_1 a2 a3) fun v => k (.lit (.bool v)) []
theorem lawIs_ev {α : Type} (a0_0 : Int) (a0_1 : Int) (a1_0 : Int) (a1_1 : Int) (a2 : Int) (a3 : Int) (k : Kont α) : evFun Try.prog R7 (lawIs_h0) false Try.f8 (bodyOf Try.f8) 60 (mkS [.agg (.pair (.int .i64) (.int .i64)), .agg (.pair (.int .i64) (.int .i64)), .val (.int .i64), .val (.int .i64)] ((a0_0, a0_1), (a1_0, a1_1), a2, a3, ())) (mkH [] ()) k = outOf (lawIs a0_0 a0_1 a1_0 a1_1 a2 a3) fun v => k (.lit (.bool v)) [] :=
  (show _ = lawIs_t a0_0 a0_1 a1_0 a1_1 a2 a3 (fun v => k (.lit (.bool v)) []) from by kernel_rfl).trans (lawIs_t_eq a0_0 a0_1 a1_0 a1_1 a2 a3 _)
theorem lawIs_good : TX.Good Try.prog 8 lawIs_sp := good_form R7_ok mixed Try.func8 (body_of rfl) (by kernel_rfl) false fun α a m k r h => by
  obtain ⟨⟨a0_0, a0_1⟩, ⟨a1_0, a1_1⟩, a2, a3, _⟩ := a; obtain _ := m
  exact ⟨lawIs_h0, 60, lawIs_h0_ok, rfl, (lawIs_ev a0_0 a0_1 a1_0 a1_1 a2 a3 k).trans h⟩
end Go.Proofs.Dbl
