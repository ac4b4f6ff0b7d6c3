import Derived.Test.YtbcijnfednjohaaGreatPzXE
namespace Go.Proofs.Dbl
open Go Go.TX Go.Proofs
set_option maxRecDepth 100000
set_option linter.unusedVariables false
set_option maxHeartbeats 0
noncomputable def Q1 : Env := P7.add 5 true pure_Do_sp
theorem Q1_ok : Q1.OK Tryz.prog := (P7_ok).add_ok pure_Do_good
def pure_All_h0 : Hints := Hints.nil 0
theorem pure_All_h0_ok : pure_All_h0.OK Tryz.prog (bodyOf Tryz.f7) := Hints.nil_ok
def pure_All_L1_A : List SD := [.any, .val (.sl (.int .i64)), .any, .any, .any, .any, .any, .any, .any, .any, .val (.sl (.int .i64)), .val (.int .i64), .val (.int .i64), .any, .any, .any, .any, .any, .any, .any, .any, .any, .any, .any, .any, .any, .any, .any, .any]
def pure_All_L1_H : List HD := []
abbrev pure_All_L1_D : Type := (List Int) × (List Int) × Int × Int
def pure_All_L1_to (a : DenS pure_All_L1_A) (m : DenH pure_All_L1_H) : pure_All_L1_D := (a.2.1, a.2.2.2.2.2.2.2.2.2.2.1, a.2.2.2.2.2.2.2.2.2.2.2.1, a.2.2.2.2.2.2.2.2.2.2.2.2.1)
def pure_All_L1_ofA (d : pure_All_L1_D) : DenS pure_All_L1_A := match d with | (s1, s10, s11, s12) => ((), s1, (), (), (), (), (), (), (), (), s10, s11, s12, (), (), (), (), (), (), (), (), (), (), (), (), (), (), (), (), ())
def pure_All_L1_ofH (d : pure_All_L1_D) : DenH pure_All_L1_H := match d with | (s1, s10, s11, s12) => ()
def pure_All_L1_N : Norm := (⟨[1, 10, 11, 12], [], []⟩ : Go.TX.Norm)
def pure_All_L1_X : Exit → Norm := fun e => match e with | .exit 0 => ⟨[1], [], []⟩ | .ret => ⟨[4, 5], [], []⟩ | _ => ⟨[], [], []⟩
abbrev pure_All_L1_R : Type := (((List Int) × Int) ⊕ ((List Int)))
def pure_All_L1_fin (v : pure_All_L1_R) : Exit × St := sumOf v (fun v => (.ret, ⟨[.any, .any, .any, .any, .sl (.int .i64) v.1 false, .lit (.int .i64 v.2), .any, .any, .any, .any, .any, .any, .any, .any, .any, .any, .any, .any, .any, .any, .any, .any, .any, .any, .any, .any, .any, .any, .any], []⟩)) (fun v => ((.exit 0), ⟨[.any, .sl (.int .i64) v false, .any, .any, .any, .any, .any, .any, .any, .any, .any, .any, .any, .any, .any, .any, .any, .any, .any, .any, .any, .any, .any, .any, .any, .any, .any, .any, .any], []⟩))
noncomputable def pure_All_L1_t {γ : Type} (s1 : (List Int)) (s10 : (List Int)) (s11 : Int) (s12 : Int) (next : pure_All_L1_D → Option γ) (out : pure_All_L1_R → Option γ) : Option γ := cond (decide (s12 < s11)) (cond (decide ((0 : Int) ≤ s12 ∧ s12 < (↑(List.length s10) : Int))) (outOf (pure_Do (List.getD s10 (Int.toNat s12) (0 : Int)) s1) fun (x1 : ((List Int) × Int)) => cond (Prod.snd x1 != (0 : Int)) (out (.inl (Prod.fst x1, Prod.snd x1))) (next (Prod.fst x1, s10, s11, IntKind.wrap IntKind.i64 (s12 + (1 : Int))))) (none)) (out (.inr (s1)))
noncomputable def pure_All_L1_pass (d : pure_All_L1_D) : Option (pure_All_L1_D ⊕ pure_All_L1_R) := pure_All_L1_t d.1 d.2.1 d.2.2.1 d.2.2.2 (fun d => some (.inl d)) (fun x => some (.inr x))
theorem pure_All_L1_t_eq {γ : Type} (s1 : (List Int)) (s10 : (List Int)) (s11 : Int) (s12 : Int) (next : pure_All_L1_D → Option γ) (out : pure_All_L1_R → Option γ) : pure_All_L1_t s1 s10 s11 s12 next out = PassOf (pure_All_L1_t s1 s10 s11 s12 (fun d => some (.inl d)) (fun x => some (.inr x))) next out := by
  delta pure_All_L1_t; exact (Ps.nd (Ps.nd (Ps.bd fun x1 => (Ps.nd Ps.ou Ps.nx)) Ps.no) Ps.ou)
theorem pure_All_L1_ev (α : Type) (d : pure_All_L1_D) (next : pure_All_L1_D → Option α) (k : Exit → St → Option α) : ev Tryz.prog Q1 pure_All_h0 60 [0, 0, 1, 0, 1] ((codeAt (bodyOf Tryz.f7) [0, 0, 1, 0, 1]).getD .skip) ⟨mkS pure_All_L1_A (pure_All_L1_ofA d), mkH pure_All_L1_H (pure_All_L1_ofH d)⟩ (passK 0 pure_All_L1_N pure_All_L1_A pure_All_L1_H pure_All_L1_X (fun a m => next (pure_All_L1_to a m)) k) = PassOf (pure_All_L1_pass d) next fun x => k (pure_All_L1_fin x).1 (pure_All_L1_fin x).2 := by
  obtain ⟨s1, s10, s11, s12⟩ := d
  exact (show _ = pure_All_L1_t s1 s10 s11 s12 next (fun x => k (pure_All_L1_fin x).1 (pure_All_L1_fin x).2) from by kernel_rfl).trans (pure_All_L1_t_eq s1 s10 s11 s12 _ _)
noncomputable def pure_All_L1 (d : pure_All_L1_D) : Option pure_All_L1_R := runs pure_All_L1_pass d
noncomputable def pure_All_L1_sp : CSpec := fun _ st k => reNorm 0 pure_All_L1_N pure_All_L1_A pure_All_L1_H st fun a m => outOf (pure_All_L1 (pure_All_L1_to a m)) fun v => sumOf v (fun v => k .ret ⟨[.any, .any, .any, .any, .sl (.int .i64) v.1 false, .lit (.int .i64 v.2), .any, .any, .any, .any, .any, .any, .any, .any, .any, .any, .any, .any, .any, .any, .any, .any, .any, .any, .any, .any, .any, .any, .any], []⟩) (fun v => k (.exit 0) ⟨[.any, .sl (.int .i64) v false, .any, .any, .any, .any, .any, .any, .any, .any, .any, .any, .any, .any, .any, .any, .any, .any, .any, .any, .any, .any, .any, .any, .any, .any, .any, .any, .any], []⟩)
theorem pure_All_L1_ok : SumOK Tryz.prog 0 (.loop ((codeAt (bodyOf Tryz.f7) [0, 0, 1, 0, 1]).getD .skip)) pure_All_L1_sp := (SumOK.loop Q1_ok mixed pure_All_h0_ok (show codeAt (bodyOf Tryz.f7) [0, 1, 0, 1] = some (.loop ((codeAt (bodyOf Tryz.f7) [0, 0, 1, 0, 1]).getD .skip)) from by kernel_rfl) (N := pure_All_L1_N) (Nx := pure_All_L1_X) (A := pure_All_L1_A) (Hs := pure_All_L1_H) (toD := pure_All_L1_to) (ofA := pure_All_L1_ofA) (ofH := pure_All_L1_ofH) (fun _ _ => rfl) (fun _ _ => rfl) (pass := pure_All_L1_pass) (fin := pure_All_L1_fin) 60 pure_All_L1_ev (steps pure_All_L1_pass)).mono fun α st k r h => by
  refine Eq.trans (congrArg (reNorm 0 pure_All_L1_N pure_All_L1_A pure_All_L1_H st) ?_) h
  funext a m
  exact outOf_congr fun x => by rcases x with x | x <;> rfl
noncomputable def pure_All_L1_h : Hints := pure_All_h0.add [0, 1, 0, 1] pure_All_L1_sp
theorem pure_All_L1_h_ok : pure_All_L1_h.OK Tryz.prog (bodyOf Tryz.f7) := pure_All_h0_ok.add (show codeAt (bodyOf Tryz.f7) [0, 1, 0, 1] = some (.loop ((codeAt (bodyOf Tryz.f7) [0, 0, 1, 0, 1]).getD .skip)) from by kernel_rfl) pure_All_L1_ok
abbrev pure_All_R : Type := ((List Int) × Int)
noncomputable def pure_All_t {γ : Type} (a0 : (List Int)) (a1 : (List Int)) (k : pure_All_R → Option γ) : Option γ := outOf (pure_All_L1 (a1, a0, (↑(List.length a0) : Int), (0 : Int))) fun (x2 : List Int × Int ⊕ List Int) => sumOf x2 (fun x3 => k (Prod.fst x3, Prod.snd x3)) (fun x4 => k (x4, (0 : Int)))
noncomputable def pure_All (a0 : (List Int)) (a1 : (List Int)) : Option pure_All_R := pure_All_t a0 a1 some
theorem pure_All_t_eq {γ : Type} (a0 : (List Int)) (a1 : (List Int)) (k : pure_All_R → Option γ) : pure_All_t a0 a1 k = outOf (pure_All a0 a1) k := by
  delta pure_All pure_All_t; exact (Tr.bd fun x2 => (Tr.cs (fun x3 => Tr.lf) (fun x4 => Tr.lf)))
noncomputable def pure_All_sp : TX.Spec := specD [.val (.sl (.int .i64)), .val (.sl (.int .i64))] [] fun _ a m k => match a, m with | ⟨a0, a1, _⟩, _ => outOf (pure_All a0 a1) fun v => k (.tup [.sl (.int .i64) v.1 false, .lit (.int .i64 v.2)]) []
theorem pure_All_ev {α : Type} (a0 : (List Int)) (a1 : (List Int)) (k : Kont α) : evFun Tryz.prog Q1 (pure_All_L1_h) false Tryz.f7 (bodyOf Tryz.f7) 60 (mkS [.val (.sl (.int .i64)), .val (.sl (.int .i64))] (a0, a1, ())) (mkH [] ()) k = outOf (pure_All a0 a1) fun v => k (.tup [.sl (.int .i64) v.1 false, .lit (.int .i64 v.2)]) [] :=
  (show _ = pure_All_t a0 a1 (fun v => k (.tup [.sl (.int .i64) v.1 false, .lit (.int .i64 v.2)]) []) from by kernel_rfl).trans (pure_All_t_eq a0 a1 _)
theorem pure_All_good : TX.Good Tryz.prog 7 pure_All_sp := good_form Q1_ok mixed Tryz.func7 (body_of rfl) (by kernel_rfl) false fun α a m k r h => by
  obtain ⟨a0, a1, _⟩ := a; obtain _ := m
  exact ⟨pure_All_L1_h, 60, pure_All_L1_h_ok, rfl, (pure_All_ev a0 a1 k).trans h⟩
def ref_Same_h0 : Hints := Hints.nil 0
theorem ref_Same_h0_ok : ref_Same_h0.OK Tryz.prog (bodyOf Tryz.f9) := Hints.nil_ok
def ref_Same_L1_A : List SD := [.val (.sl (.int .i64)), .val (.sl (.int .i64)), .any, .any, .any, .val (.int .i64), .any, .any, .any, .any, .any, .any, .any, .any, .any, .any, .any, .any, .any, .any, .any, .any, .any, .any, .any, .any]
def ref_Same_L1_H : List HD := []
abbrev ref_Same_L1_D : Type := (List Int) × (List Int) × Int
def ref_Same_L1_to (a : DenS ref_Same_L1_A) (m : DenH ref_Same_L1_H) : ref_Same_L1_D := (a.1, a.2.1, a.2.2.2.2.2.1)
def ref_Same_L1_ofA (d : ref_Same_L1_D) : DenS ref_Same_L1_A := match d with | (s0, s1, s5) => (s0, s1, (), (), (), s5, (), (), (), (), (), (), (), (), (), (), (), (), (), (), (), (), (), (), (), (), ())
def ref_Same_L1_ofH (d : ref_Same_L1_D) : DenH ref_Same_L1_H := match d with | (s0, s1, s5) => ()
def ref_Same_L1_N : Norm := (⟨[0, 1, 5], [], []⟩ : Go.TX.Norm)
def ref_Same_L1_X : Exit → Norm := fun e => match e with | .exit 0 => ⟨[], [], []⟩ | .ret => ⟨[4], [], []⟩ | _ => ⟨[], [], []⟩
abbrev ref_Same_L1_R : Type := ((Bool) ⊕ (Unit))
def ref_Same_L1_fin (v : ref_Same_L1_R) : Exit × St := sumOf v (fun v => (.ret, ⟨[.any, .any, .any, .any, .lit (.bool v), .any, .any, .any, .any, .any, .any, .any, .any, .any, .any, .any, .any, .any, .any, .any, .any, .any, .any, .any, .any, .any], []⟩)) (fun v => ((.exit 0), ⟨[.any, .any, .any, .any, .any, .any, .any, .any, .any, .any, .any, .any, .any, .any, .any, .any, .any, .any, .any, .any, .any, .any, .any, .any, .any, .any], []⟩))
noncomputable def ref_Same_L1_t {γ : Type} (s0 : (List Int)) (s1 : (List Int)) (s5 : Int) (next : ref_Same_L1_D → Option γ) (out : ref_Same_L1_R → Option γ) : Option γ := cond (decide (s5 < (↑(List.length s0) : Int))) (cond (decide ((0 : Int) ≤ s5 ∧ s5 < (↑(List.length s0) : Int))) (cond (decide ((0 : Int) ≤ s5 ∧ s5 < (↑(List.length s1) : Int))) (cond (List.getD s0 (Int.toNat s5) (0 : Int) != List.getD s1 (Int.toNat s5) (0 : Int)) (out (.inl (false))) (next (s0, s1, IntKind.wrap IntKind.i64 (s5 + (1 : Int))))) (none)) (none)) (out (.inr ()))
noncomputable def ref_Same_L1_pass (d : ref_Same_L1_D) : Option (ref_Same_L1_D ⊕ ref_Same_L1_R) := ref_Same_L1_t d.1 d.2.1 d.2.2 (fun d => some (.inl d)) (fun x => some (.inr x))
theorem ref_Same_L1_t_eq {γ : Type} (s0 : (List Int)) (s1 : (List Int)) (s5 : Int) (next : ref_Same_L1_D → Option γ) (out : ref_Same_L1_R → Option γ) : ref_Same_L1_t s0 s1 s5 next out = PassOf (ref_Same_L1_t s0 s1 s5 (fun d => some (.inl d)) (fun x => some (.inr x))) next out := by
  delta ref_Same_L1_t; exact (Ps.nd (Ps.nd (Ps.nd (Ps.nd Ps.ou Ps.nx) Ps.no) Ps.no) Ps.ou)
theorem ref_Same_L1_ev (α : Type) (d : ref_Same_L1_D) (next : ref_Same_L1_D → Option α) (k : Exit → St → Option α) : ev Tryz.prog Q1 ref_Same_h0 60 [0, 0, 1, 0, 1, 1] ((codeAt (bodyOf Tryz.f9) [0, 0, 1, 0, 1, 1]).getD .skip) ⟨mkS ref_Same_L1_A (ref_Same_L1_ofA d), mkH ref_Same_L1_H (ref_Same_L1_ofH d)⟩ (passK 0 ref_Same_L1_N ref_Same_L1_A ref_Same_L1_H ref_Same_L1_X (fun a m => next (ref_Same_L1_to a m)) k) = PassOf (ref_Same_L1_pass d) next fun x => k (ref_Same_L1_fin x).1 (ref_Same_L1_fin x).2 := by
  obtain ⟨s0, s1, s5⟩ := d
  exact (show _ = ref_Same_L1_t s0 s1 s5 next (fun x => k (ref_Same_L1_fin x).1 (ref_Same_L1_fin x).2) from by kernel_rfl).trans (ref_Same_L1_t_eq s0 s1 s5 _ _)
noncomputable def ref_Same_L1 (d : ref_Same_L1_D) : Option ref_Same_L1_R := runs ref_Same_L1_pass d
noncomputable def ref_Same_L1_sp : CSpec := fun _ st k => reNorm 0 ref_Same_L1_N ref_Same_L1_A ref_Same_L1_H st fun a m => outOf (ref_Same_L1 (ref_Same_L1_to a m)) fun v => sumOf v (fun v => k .ret ⟨[.any, .any, .any, .any, .lit (.bool v), .any, .any, .any, .any, .any, .any, .any, .any, .any, .any, .any, .any, .any, .any, .any, .any, .any, .any, .any, .any, .any], []⟩) (fun v => k (.exit 0) ⟨[.any, .any, .any, .any, .any, .any, .any, .any, .any, .any, .any, .any, .any, .any, .any, .any, .any, .any, .any, .any, .any, .any, .any, .any, .any, .any], []⟩)
theorem ref_Same_L1_ok : SumOK Tryz.prog 0 (.loop ((codeAt (bodyOf Tryz.f9) [0, 0, 1, 0, 1, 1]).getD .skip)) ref_Same_L1_sp := (SumOK.loop Q1_ok mixed ref_Same_h0_ok (show codeAt (bodyOf Tryz.f9) [0, 1, 0, 1, 1] = some (.loop ((codeAt (bodyOf Tryz.f9) [0, 0, 1, 0, 1, 1]).getD .skip)) from by kernel_rfl) (N := ref_Same_L1_N) (Nx := ref_Same_L1_X) (A := ref_Same_L1_A) (Hs := ref_Same_L1_H) (toD := ref_Same_L1_to) (ofA := ref_Same_L1_ofA) (ofH := ref_Same_L1_ofH) (fun _ _ => rfl) (fun _ _ => rfl) (pass := ref_Same_L1_pass) (fin := ref_Same_L1_fin) 60 ref_Same_L1_ev (steps ref_Same_L1_pass)).mono fun α st k r h => by
  refine Eq.trans (congrArg (reNorm 0 ref_Same_L1_N ref_Same_L1_A ref_Same_L1_H st) ?_) h
  funext a m
  exact outOf_congr fun x => by rcases x with x | x <;> rfl
noncomputable def ref_Same_L1_h : Hints := ref_Same_h0.add [0, 1, 0, 1, 1] ref_Same_L1_sp
theorem ref_Same_L1_h_ok : ref_Same_L1_h.OK Tryz.prog (bodyOf Tryz.f9) := ref_Same_h0_ok.add (show codeAt (bodyOf Tryz.f9) [0, 1, 0, 1, 1] = some (.loop ((codeAt (bodyOf Tryz.f9) [0, 0, 1, 0, 1, 1]).getD .skip)) from by kernel_rfl) ref_Same_L1_ok
abbrev ref_Same_R : Type := (Bool)
noncomputable def ref_Same_t {γ : Type} (a0 : (List Int)) (a1 : (List Int)) (k : ref_Same_R → Option γ) : Option γ := cond ((↑(List.length a0) : Int) != (↑(List.length a1) : Int)) (k (false)) (outOf (ref_Same_L1 (a0, a1, (0 : Int))) fun (x1 : Bool ⊕ Unit) => sumOf x1 (fun x2 => k (x2)) (fun x3 => k (true)))
noncomputable def ref_Same (a0 : (List Int)) (a1 : (List Int)) : Option ref_Same_R := ref_Same_t a0 a1 some
theorem ref_Same_t_eq {γ : Type} (a0 : (List Int)) (a1 : (List Int)) (k : ref_Same_R → Option γ) : ref_Same_t a0 a1 k = outOf (ref_Same a0 a1) k := by
  delta ref_Same ref_Same_t; exact (Tr.nd Tr.lf (Tr.bd fun x1 => (Tr.cs (fun x2 => Tr.lf) (fun x3 => Tr.lf))))
noncomputable def ref_Same_sp : TX.Spec := specD [.val (.sl (.int .i64)), .val (.sl (.int .i64))] [] fun _ a m k => match a, m with | ⟨a0, a1, _⟩, _ => outOf (ref_Same a0 a1) fun v => k (.lit (.bool v)) []
theorem ref_Same_ev {α : Type} (a0 : (List Int)) (a1 : (List Int)) (k : Kont α) : evFun Tryz.prog Q1 (ref_Same_L1_h) false Tryz.f9 (bodyOf Tryz.f9) 60 (mkS [.val (.sl (.int .i64)), .val (.sl (.int .i64))] (a0, a1, ())) (mkH [] ()) k = outOf (ref_Same a0 a1) fun v => k (.lit (.bool v)) [] :=
  (show _ = ref_Same_t a0 a1 (fun v => k (.lit (.bool v)) []) from by kernel_rfl).trans (ref_Same_t_eq a0 a1 _)
theorem ref_Same_good : TX.Good Tryz.prog 9 ref_Same_sp := good_form Q1_ok mixed Tryz.func9 (body_of rfl) (by kernel_rfl) false fun α a m k r h => by
  obtain ⟨a0, a1, _⟩ := a; obtain _ := m
  exact ⟨ref_Same_L1_h, 60, ref_Same_L1_h_ok, rfl, (ref_Same_ev a0 a1 k).trans h⟩
def law_awake_h0 : Hints := Hints.nil 0
theorem law_awake_h0_ok : law_awake_h0.OK Tryz.prog (bodyOf Tryz.f4) := Hints.nil_ok
abbrev law_awake_R : Type := (Bool)
noncomputable def law_awake_t {γ : Type} (k : law_awake_R → Option γ) : Option γ := outOf (pure_Do (38 : Int) [(5 : Int), (7 : Int), (2 : Int)]) fun (x1 : ((List Int) × Int)) => cond (Prod.snd x1 == (0 : Int)) (cond ((↑(List.length (Prod.fst x1)) : Int) == (3 : Int)) (cond (decide ((0 : Int) ≤ (0 : Int) ∧ (0 : Int) < (↑(List.length (Prod.fst x1)) : Int))) (cond (List.getD (Prod.fst x1) (0 : Nat) (0 : Int) == (5 : Int)) (cond (decide ((0 : Int) ≤ (1 : Int) ∧ (1 : Int) < (↑(List.length (Prod.fst x1)) : Int))) (cond (List.getD (Prod.fst x1) (1 : Nat) (0 : Int) == (1 : Int)) (cond (decide ((0 : Int) ≤ (2 : Int) ∧ (2 : Int) < (↑(List.length (Prod.fst x1)) : Int))) (k (List.getD (Prod.fst x1) (2 : Nat) (0 : Int) == (3 : Int))) (none)) (k (false))) (none)) (k (false))) (none)) (k (false))) (k (false))
noncomputable def law_awake : Option law_awake_R := law_awake_t  some
theorem law_awake_t_eq {γ : Type} (k : law_awake_R → Option γ) : law_awake_t  k = outOf law_awake k := by
  delta law_awake law_awake_t; exact (Tr.bd fun x1 => (Tr.nd (Tr.nd (Tr.nd (Tr.nd (Tr.nd (Tr.nd (Tr.nd Tr.lf Tr.no) Tr.lf) Tr.no) Tr.lf) Tr.no) Tr.lf) Tr.lf))
noncomputable def law_awake_sp : TX.Spec := specD [] [] fun _ a m k => match a, m with | _, _ => outOf law_awake fun v => k (.lit (.bool v)) []
theorem law_awake_ev {α : Type} (k : Kont α) : evFun Tryz.prog Q1 (law_awake_h0) false Tryz.f4 (bodyOf Tryz.f4) 60 (mkS [] ()) (mkH [] ()) k = outOf law_awake fun v => k (.lit (.bool v)) [] :=
  (show _ = law_awake_t  (fun v => k (.lit (.bool v)) []) from by kernel_rfl).trans (law_awake_t_eq  _)
theorem law_awake_good : TX.Good Tryz.prog 4 law_awake_sp := good_form Q1_ok mixed Tryz.func4 (body_of rfl) (by kernel_rfl) false fun α a m k r h => by
  obtain _ := a; obtain _ := m
  exact ⟨law_awake_h0, 60, law_awake_h0_ok, rfl, (law_awake_ev  k).trans h⟩
noncomputable def Q2 : Env := Q1.add 7 true pure_All_sp |>.add 9 true ref_Same_sp |>.add 4 true law_awake_sp
theorem Q2_ok : Q2.OK Tryz.prog := (((Q1_ok).add_ok pure_All_good).add_ok ref_Same_good).add_ok law_awake_good
end Go.Proofs.Dbl
