import Derived.Test.YtfmdhcialeddaaaDoorNuXB
namespace Go.Proofs.Dbl
open Go Go.TX Go.Proofs
set_option maxRecDepth 100000
set_option linter.unusedVariables false
set_option maxHeartbeats 0
noncomputable def NrCE1 : Env := NrBE1
theorem NrCE1_ok : NrCE1.OK Tryd.prog := NrBE1_ok
def fmtInt0_h0 : Hints := Hints.nil 0
theorem fmtInt0_h0_ok : fmtInt0_h0.OK Tryd.prog (bodyOf Tryd.f90) := Hints.nil_ok
def fmtInt0_M1_A : List SD := [.val (.int .i64), .any, .any, .any, .any, .any, .any, .any, .any, .any, .any, .any, .any, .any, .any, .any, .any, .any, .any, .any, .any, .any, .any, .any, .any, .any, .any, .any, .any, .any, .any, .any, .any, .any, .any, .any, .any, .any, .any, .any, .any, .any, .any, .any, .any, .any, .any, .any, .any, .any, .any, .any, .any, .any]
def fmtInt0_M1_H : List HD := []
abbrev fmtInt0_M1_D : Type := Int
def fmtInt0_M1_to (a : DenS fmtInt0_M1_A) (m : DenH fmtInt0_M1_H) : fmtInt0_M1_D := (a.1)
def fmtInt0_M1_ofA (d : fmtInt0_M1_D) : DenS fmtInt0_M1_A := match d with | (s0) => (s0, (), (), (), (), (), (), (), (), (), (), (), (), (), (), (), (), (), (), (), (), (), (), (), (), (), (), (), (), (), (), (), (), (), (), (), (), (), (), (), (), (), (), (), (), (), (), (), (), (), (), (), (), (), ())
def fmtInt0_M1_ofH (d : fmtInt0_M1_D) : DenH fmtInt0_M1_H := match d with | (s0) => ()
def fmtInt0_M1_N : Norm := (⟨[0], [], []⟩ : Go.TX.Norm)
def fmtInt0_M1_X : Exit → Norm := fun e => match e with | .normal => ⟨[0], [], []⟩ | .ret => ⟨[4], [], []⟩ | _ => ⟨[], [], []⟩
abbrev fmtInt0_M1_R : Type := ((ByteArray) ⊕ (Unit))
def fmtInt0_M1_fin (d : fmtInt0_M1_D) (v : fmtInt0_M1_R) : Exit × St := sumOf v (fun v => (.ret, ⟨[.any, .any, .any, .any, .lit (.string v), .any, .any, .any, .any, .any, .any, .any, .any, .any, .any, .any, .any, .any, .any, .any, .any, .any, .any, .any, .any, .any, .any, .any, .any, .any, .any, .any, .any, .any, .any, .any, .any, .any, .any, .any, .any, .any, .any, .any, .any, .any, .any, .any, .any, .any, .any, .any, .any, .any], []⟩)) (fun v => (.normal, ⟨[.lit (.int .i64 d), .any, .any, .any, .any, .any, .any, .any, .any, .any, .any, .any, .any, .any, .any, .any, .any, .any, .any, .any, .any, .any, .any, .any, .any, .any, .any, .any, .any, .any, .any, .any, .any, .any, .any, .any, .any, .any, .any, .any, .any, .any, .any, .any, .any, .any, .any, .any, .any, .any, .any, .any, .any, .any], []⟩))
noncomputable def fmtInt0_M1_t {γ : Type} (s0 : Int) (k : fmtInt0_M1_R → Option γ) : Option γ := cond (decide ((0 : Int) ≤ s0)) (cond (decide (s0 < (100 : Int))) (outOf (small s0) fun (x3 : ByteArray) => k (.inl (x3))) (k (.inr ()))) (k (.inr ()))
noncomputable def fmtInt0_M1 (s0 : Int) : Option fmtInt0_M1_R := fmtInt0_M1_t s0 some
theorem fmtInt0_M1_t_eq {γ : Type} (s0 : Int) (k : fmtInt0_M1_R → Option γ) : fmtInt0_M1_t s0 k = outOf (fmtInt0_M1 s0) k := by
  delta fmtInt0_M1 fmtInt0_M1_t; exact (Tr.nd (Tr.nd (Tr.bd fun x3 => Tr.lf) Tr.lf) Tr.lf)
theorem fmtInt0_M1_ev (α : Type) (d : fmtInt0_M1_D) (k : Exit → St → Option α) : ev Tryd.prog NrCE1 fmtInt0_h0 60 [0, 0, 1, 0, 1] ((codeAt (bodyOf Tryd.f90) [0, 0, 1, 0, 1]).getD .skip) ⟨mkS fmtInt0_M1_A (fmtInt0_M1_ofA d), mkH fmtInt0_M1_H (fmtInt0_M1_ofH d)⟩ (exitN 0 fmtInt0_M1_X k) = outOf (fmtInt0_M1 d) fun x => k (fmtInt0_M1_fin d x).1 (fmtInt0_M1_fin d x).2 := by
  revert d; intro s0
  exact (show _ = fmtInt0_M1_t s0 (fun x => k (fmtInt0_M1_fin (s0) x).1 (fmtInt0_M1_fin (s0) x).2) from by kernel_rfl).trans (fmtInt0_M1_t_eq s0 _)
noncomputable def fmtInt0_M1_sp : CSpec := fun _ st k => reNorm 0 fmtInt0_M1_N fmtInt0_M1_A fmtInt0_M1_H st fun a m => outOf (fmtInt0_M1 (fmtInt0_M1_to a m)) fun v => sumOf v (fun v => k .ret ⟨[.any, .any, .any, .any, .lit (.string v), .any, .any, .any, .any, .any, .any, .any, .any, .any, .any, .any, .any, .any, .any, .any, .any, .any, .any, .any, .any, .any, .any, .any, .any, .any, .any, .any, .any, .any, .any, .any, .any, .any, .any, .any, .any, .any, .any, .any, .any, .any, .any, .any, .any, .any, .any, .any, .any, .any], []⟩) (fun v => k .normal ⟨[.lit (.int .i64 (fmtInt0_M1_to a m)), .any, .any, .any, .any, .any, .any, .any, .any, .any, .any, .any, .any, .any, .any, .any, .any, .any, .any, .any, .any, .any, .any, .any, .any, .any, .any, .any, .any, .any, .any, .any, .any, .any, .any, .any, .any, .any, .any, .any, .any, .any, .any, .any, .any, .any, .any, .any, .any, .any, .any, .any, .any, .any], []⟩)
theorem fmtInt0_M1_ok : SumOK Tryd.prog 0 ((codeAt (bodyOf Tryd.f90) [0, 0, 1, 0, 1]).getD .skip) fmtInt0_M1_sp := (SumOK.once NrCE1_ok mixed fmtInt0_h0_ok (show codeAt (bodyOf Tryd.f90) [0, 0, 1, 0, 1] = some ((codeAt (bodyOf Tryd.f90) [0, 0, 1, 0, 1]).getD .skip) from by kernel_rfl) (N := fmtInt0_M1_N) (Nx := fmtInt0_M1_X) (A := fmtInt0_M1_A) (Hs := fmtInt0_M1_H) (toD := fmtInt0_M1_to) (ofA := fmtInt0_M1_ofA) (ofH := fmtInt0_M1_ofH) (fun _ _ => rfl) (fun _ _ => rfl) (M := fun d => fmtInt0_M1 d) (fin := fmtInt0_M1_fin) 60 fmtInt0_M1_ev).mono fun α st k r h => by
  refine Eq.trans (congrArg (reNorm 0 fmtInt0_M1_N fmtInt0_M1_A fmtInt0_M1_H st) ?_) h
  funext a m
  exact outOf_congr fun x => by rcases x with x | x <;> rfl
noncomputable def fmtInt0_M1_h : Hints := fmtInt0_h0.add [0, 0, 1, 0, 1] fmtInt0_M1_sp
theorem fmtInt0_M1_h_ok : fmtInt0_M1_h.OK Tryd.prog (bodyOf Tryd.f90) := fmtInt0_h0_ok.add (show codeAt (bodyOf Tryd.f90) [0, 0, 1, 0, 1] = some ((codeAt (bodyOf Tryd.f90) [0, 0, 1, 0, 1]).getD .skip) from by kernel_rfl) fmtInt0_M1_ok
def fmtInt0_M2_A : List SD := [.val (.int .i64), .any, .any, .any, .any, .loc 0 0 0, .val (.int .u64), .any, .any, .any, .any, .any, .any, .any, .any, .any, .any, .any, .any, .any, .any, .any, .any, .any, .any, .any, .any, .any, .any, .any, .any, .any, .any, .any, .any, .any, .any, .any, .any, .any, .any, .any, .any, .any, .any, .any, .any, .any, .any, .any, .any, .any, .any, .any]
def fmtInt0_M2_H : List HD := [.row (.int .u8)]
abbrev fmtInt0_M2_D : Type := Int × Int × (List Int)
def fmtInt0_M2_to (a : DenS fmtInt0_M2_A) (m : DenH fmtInt0_M2_H) : fmtInt0_M2_D := (a.1, a.2.2.2.2.2.2.1, m.1)
def fmtInt0_M2_ofA (d : fmtInt0_M2_D) : DenS fmtInt0_M2_A := match d with | (s0, s6, m0) => (s0, (), (), (), (), (), s6, (), (), (), (), (), (), (), (), (), (), (), (), (), (), (), (), (), (), (), (), (), (), (), (), (), (), (), (), (), (), (), (), (), (), (), (), (), (), (), (), (), (), (), (), (), (), (), ())
def fmtInt0_M2_ofH (d : fmtInt0_M2_D) : DenH fmtInt0_M2_H := match d with | (s0, s6, m0) => (m0, ())
def fmtInt0_M2_N : Norm := (⟨[0, 5, 6], [], []⟩ : Go.TX.Norm)
def fmtInt0_M2_X : Exit → Norm := fun e => match e with | .normal => ⟨[0, 5, 6], [], []⟩ | _ => ⟨[], [], []⟩
abbrev fmtInt0_M2_R : Type := (Int)
def fmtInt0_M2_fin (d : fmtInt0_M2_D) (v : fmtInt0_M2_R) : Exit × St := (.normal, ⟨[.lit (.int .i64 d.1), .any, .any, .any, .any, .ptr 0 0 0, .lit (.int .u64 v), .any, .any, .any, .any, .any, .any, .any, .any, .any, .any, .any, .any, .any, .any, .any, .any, .any, .any, .any, .any, .any, .any, .any, .any, .any, .any, .any, .any, .any, .any, .any, .any, .any, .any, .any, .any, .any, .any, .any, .any, .any, .any, .any, .any, .any, .any, .any], [.row (.int .u8) d.2.2]⟩)
noncomputable def fmtInt0_M2_t {γ : Type} (s0 : Int) (s6 : Int) (k : fmtInt0_M2_R → Option γ) : Option γ := cond (decide (s0 < (0 : Int))) (k (IntKind.wrap IntKind.u64 ((0 : Int) - s6))) (k (s6))
noncomputable def fmtInt0_M2 (s0 : Int) (s6 : Int) : Option fmtInt0_M2_R := fmtInt0_M2_t s0 s6 some
theorem fmtInt0_M2_t_eq {γ : Type} (s0 : Int) (s6 : Int) (k : fmtInt0_M2_R → Option γ) : fmtInt0_M2_t s0 s6 k = outOf (fmtInt0_M2 s0 s6) k := by
  delta fmtInt0_M2 fmtInt0_M2_t; exact (Tr.nd Tr.lf Tr.lf)
theorem fmtInt0_M2_ev (α : Type) (d : fmtInt0_M2_D) (k : Exit → St → Option α) : ev Tryd.prog NrCE1 fmtInt0_M1_h 60 [0, 1, 1, 1, 0, 1, 0, 1] ((codeAt (bodyOf Tryd.f90) [0, 1, 1, 1, 0, 1, 0, 1]).getD .skip) ⟨mkS fmtInt0_M2_A (fmtInt0_M2_ofA d), mkH fmtInt0_M2_H (fmtInt0_M2_ofH d)⟩ (exitN 0 fmtInt0_M2_X k) = outOf (fmtInt0_M2 d.1 d.2.1) fun x => k (fmtInt0_M2_fin d x).1 (fmtInt0_M2_fin d x).2 := by
  obtain ⟨s0, s6, m0⟩ := d
  exact (show _ = fmtInt0_M2_t s0 s6 (fun x => k (fmtInt0_M2_fin (s0, s6, m0) x).1 (fmtInt0_M2_fin (s0, s6, m0) x).2) from by kernel_rfl).trans (fmtInt0_M2_t_eq s0 s6 _)
noncomputable def fmtInt0_M2_sp : CSpec := fun _ st k => reNorm 0 fmtInt0_M2_N fmtInt0_M2_A fmtInt0_M2_H st fun a m => outOf (fmtInt0_M2 (fmtInt0_M2_to a m).1 (fmtInt0_M2_to a m).2.1) fun v => k .normal ⟨[.lit (.int .i64 (fmtInt0_M2_to a m).1), .any, .any, .any, .any, .ptr 0 0 0, .lit (.int .u64 v), .any, .any, .any, .any, .any, .any, .any, .any, .any, .any, .any, .any, .any, .any, .any, .any, .any, .any, .any, .any, .any, .any, .any, .any, .any, .any, .any, .any, .any, .any, .any, .any, .any, .any, .any, .any, .any, .any, .any, .any, .any, .any, .any, .any, .any, .any, .any], [.row (.int .u8) (fmtInt0_M2_to a m).2.2]⟩
theorem fmtInt0_M2_ok : SumOK Tryd.prog 0 ((codeAt (bodyOf Tryd.f90) [0, 1, 1, 1, 0, 1, 0, 1]).getD .skip) fmtInt0_M2_sp := (SumOK.once NrCE1_ok mixed fmtInt0_M1_h_ok (show codeAt (bodyOf Tryd.f90) [0, 1, 1, 1, 0, 1, 0, 1] = some ((codeAt (bodyOf Tryd.f90) [0, 1, 1, 1, 0, 1, 0, 1]).getD .skip) from by kernel_rfl) (N := fmtInt0_M2_N) (Nx := fmtInt0_M2_X) (A := fmtInt0_M2_A) (Hs := fmtInt0_M2_H) (toD := fmtInt0_M2_to) (ofA := fmtInt0_M2_ofA) (ofH := fmtInt0_M2_ofH) (fun _ _ => rfl) (fun _ _ => rfl) (M := fun d => fmtInt0_M2 d.1 d.2.1) (fin := fmtInt0_M2_fin) 60 fmtInt0_M2_ev).mono fun α st k r h => by
  refine Eq.trans (congrArg (reNorm 0 fmtInt0_M2_N fmtInt0_M2_A fmtInt0_M2_H st) ?_) h
  funext a m
  exact outOf_congr fun x => rfl
noncomputable def fmtInt0_M2_h : Hints := fmtInt0_M1_h.add [0, 1, 1, 1, 0, 1, 0, 1] fmtInt0_M2_sp
theorem fmtInt0_M2_h_ok : fmtInt0_M2_h.OK Tryd.prog (bodyOf Tryd.f90) := fmtInt0_M1_h_ok.add (show codeAt (bodyOf Tryd.f90) [0, 1, 1, 1, 0, 1, 0, 1] = some ((codeAt (bodyOf Tryd.f90) [0, 1, 1, 1, 0, 1, 0, 1]).getD .skip) from by kernel_rfl) fmtInt0_M2_ok
abbrev fmtInt0_R : Type := (ByteArray)
noncomputable def fmtInt0_t {γ : Type} (a0 : Int) (a1 : Int) (k : fmtInt0_R → Option γ) : Option γ := cond (a1 == (10 : Int)) (outOf (fmtInt0_M1 a0) fun (x12 : ByteArray ⊕ Unit) => sumOf x12 (fun x13 => k (x13)) (fun x14 => outOf (fmtInt0_M2 a0 (IntKind.wrap IntKind.u64 a0)) fun (x15 : Int) => outOf (numDigits x15) fun (x16 : Int) => cond (decide ((0 : Int) ≤ (1 : Int) ∧ (1 : Int) ≤ IntKind.wrap IntKind.i64 ((1 : Int) + x16) ∧ IntKind.wrap IntKind.i64 ((1 : Int) + x16) ≤ (24 : Int))) (cond (decide ((0 : Int) ≤ x15 ∧ x15 < (18446744073709551616 : Int) ∧ Int.toNat x15 < (10 : Nat) ^ (Int.toNat (IntKind.wrap IntKind.i64 ((1 : Int) + x16)) - (1 : Nat)) ∧ (0 : Nat) < Int.toNat (IntKind.wrap IntKind.i64 ((1 : Int) + x16)) - (1 : Nat) ∧ (1 : Nat) + (Int.toNat (IntKind.wrap IntKind.i64 ((1 : Int) + x16)) - (1 : Nat)) ≤ (24 : Nat) ∧ Int.toNat (IntKind.wrap IntKind.i64 ((1 : Int) + x16)) - (1 : Nat) < (4611686018427387904 : Nat))) (cond (decide (a0 < (0 : Int))) (cond (decide (List.length (List.set (List.take (1 : Nat) [(0 : Int), (0 : Int), (0 : Int), (0 : Int), (0 : Int), (0 : Int), (0 : Int), (0 : Int), (0 : Int), (0 : Int), (0 : Int), (0 : Int), (0 : Int), (0 : Int), (0 : Int), (0 : Int), (0 : Int), (0 : Int), (0 : Int), (0 : Int), (0 : Int), (0 : Int), (0 : Int), (0 : Int)] ++ dec10 (Int.toNat (IntKind.wrap IntKind.i64 ((1 : Int) + x16)) - (1 : Nat)) x15 ++ List.drop ((1 : Nat) + (Int.toNat (IntKind.wrap IntKind.i64 ((1 : Int) + x16)) - (1 : Nat))) [(0 : Int), (0 : Int), (0 : Int), (0 : Int), (0 : Int), (0 : Int), (0 : Int), (0 : Int), (0 : Int), (0 : Int), (0 : Int), (0 : Int), (0 : Int), (0 : Int), (0 : Int), (0 : Int), (0 : Int), (0 : Int), (0 : Int), (0 : Int), (0 : Int), (0 : Int), (0 : Int), (0 : Int)]) (0 : Nat) (45 : Int)) = (24 : Nat))) (cond (decide ((0 : Int) ≤ (0 : Int) ∧ (0 : Int) ≤ IntKind.wrap IntKind.i64 ((1 : Int) + x16) ∧ IntKind.wrap IntKind.i64 ((1 : Int) + x16) ≤ (24 : Int))) (k (strOf (List.take (Int.toNat (IntKind.wrap IntKind.i64 ((1 : Int) + x16)) - (0 : Nat)) (List.drop (0 : Nat) (List.set (List.take (1 : Nat) [(0 : Int), (0 : Int), (0 : Int), (0 : Int), (0 : Int), (0 : Int), (0 : Int), (0 : Int), (0 : Int), (0 : Int), (0 : Int), (0 : Int), (0 : Int), (0 : Int), (0 : Int), (0 : Int), (0 : Int), (0 : Int), (0 : Int), (0 : Int), (0 : Int), (0 : Int), (0 : Int), (0 : Int)] ++ dec10 (Int.toNat (IntKind.wrap IntKind.i64 ((1 : Int) + x16)) - (1 : Nat)) x15 ++ List.drop ((1 : Nat) + (Int.toNat (IntKind.wrap IntKind.i64 ((1 : Int) + x16)) - (1 : Nat))) [(0 : Int), (0 : Int), (0 : Int), (0 : Int), (0 : Int), (0 : Int), (0 : Int), (0 : Int), (0 : Int), (0 : Int), (0 : Int), (0 : Int), (0 : Int), (0 : Int), (0 : Int), (0 : Int), (0 : Int), (0 : Int), (0 : Int), (0 : Int), (0 : Int), (0 : Int), (0 : Int), (0 : Int)]) (0 : Nat) (45 : Int)))))) (none)) (none)) (cond (decide (List.length (List.take (1 : Nat) [(0 : Int), (0 : Int), (0 : Int), (0 : Int), (0 : Int), (0 : Int), (0 : Int), (0 : Int), (0 : Int), (0 : Int), (0 : Int), (0 : Int), (0 : Int), (0 : Int), (0 : Int), (0 : Int), (0 : Int), (0 : Int), (0 : Int), (0 : Int), (0 : Int), (0 : Int), (0 : Int), (0 : Int)] ++ dec10 (Int.toNat (IntKind.wrap IntKind.i64 ((1 : Int) + x16)) - (1 : Nat)) x15 ++ List.drop ((1 : Nat) + (Int.toNat (IntKind.wrap IntKind.i64 ((1 : Int) + x16)) - (1 : Nat))) [(0 : Int), (0 : Int), (0 : Int), (0 : Int), (0 : Int), (0 : Int), (0 : Int), (0 : Int), (0 : Int), (0 : Int), (0 : Int), (0 : Int), (0 : Int), (0 : Int), (0 : Int), (0 : Int), (0 : Int), (0 : Int), (0 : Int), (0 : Int), (0 : Int), (0 : Int), (0 : Int), (0 : Int)]) = (24 : Nat))) (cond (decide ((0 : Int) ≤ (1 : Int) ∧ (1 : Int) ≤ IntKind.wrap IntKind.i64 ((1 : Int) + x16) ∧ IntKind.wrap IntKind.i64 ((1 : Int) + x16) ≤ (24 : Int))) (k (strOf (List.take (Int.toNat (IntKind.wrap IntKind.i64 ((1 : Int) + x16)) - (1 : Nat)) (List.drop (1 : Nat) (List.take (1 : Nat) [(0 : Int), (0 : Int), (0 : Int), (0 : Int), (0 : Int), (0 : Int), (0 : Int), (0 : Int), (0 : Int), (0 : Int), (0 : Int), (0 : Int), (0 : Int), (0 : Int), (0 : Int), (0 : Int), (0 : Int), (0 : Int), (0 : Int), (0 : Int), (0 : Int), (0 : Int), (0 : Int), (0 : Int)] ++ dec10 (Int.toNat (IntKind.wrap IntKind.i64 ((1 : Int) + x16)) - (1 : Nat)) x15 ++ List.drop ((1 : Nat) + (Int.toNat (IntKind.wrap IntKind.i64 ((1 : Int) + x16)) - (1 : Nat))) [(0 : Int), (0 : Int), (0 : Int), (0 : Int), (0 : Int), (0 : Int), (0 : Int), (0 : Int), (0 : Int), (0 : Int), (0 : Int), (0 : Int), (0 : Int), (0 : Int), (0 : Int), (0 : Int), (0 : Int), (0 : Int), (0 : Int), (0 : Int), (0 : Int), (0 : Int), (0 : Int), (0 : Int)]))))) (none)) (none))) (none)) (none))) (outOf (formatBits [] (IntKind.wrap IntKind.u64 a0) a1 (decide (a0 < (0 : Int)))) fun (x17 : ((List Int) × ByteArray)) => k (Prod.snd x17))
noncomputable def fmtInt0 (a0 : Int) (a1 : Int) : Option fmtInt0_R := fmtInt0_t a0 a1 some
theorem fmtInt0_t_eq {γ : Type} (a0 : Int) (a1 : Int) (k : fmtInt0_R → Option γ) : fmtInt0_t a0 a1 k = outOf (fmtInt0 a0 a1) k := by
  delta fmtInt0 fmtInt0_t; exact (Tr.nd (Tr.bd fun x12 => (Tr.cs (fun x13 => Tr.lf) (fun x14 => (Tr.bd fun x15 => (Tr.bd fun x16 => (Tr.nd (Tr.nd (Tr.nd (Tr.nd (Tr.nd Tr.lf Tr.no) Tr.no) (Tr.nd (Tr.nd Tr.lf Tr.no) Tr.no)) Tr.no) Tr.no)))))) (Tr.bd fun x17 => Tr.lf))
noncomputable def fmtInt0_sp : TX.Spec := specD [.val (.int .i64), .val (.int .i64)] [] fun _ a m k => match a, m with | ⟨a0, a1, _⟩, _ => outOf (fmtInt0 a0 a1) fun v => k (.lit (.string v)) []
theorem fmtInt0_ev {α : Type} (a0 : Int) (a1 : Int) (k : Kont α) : evFun Tryd.prog NrCE1 (fmtInt0_M2_h) false Tryd.f90 (bodyOf Tryd.f90) 60 (mkS [.val (.int .i64), .val (.int .i64)] (a0, a1, ())) (mkH [] ()) k = outOf (fmtInt0 a0 a1) fun v => k (.lit (.string v)) [] :=
  (show _ = fmtInt0_t a0 a1 (fun v => k (.lit (.string v)) []) from by kernel_rfl).trans (fmtInt0_t_eq a0 a1 _)
theorem fmtInt0_good : TX.Good Tryd.prog 90 fmtInt0_sp := good_form NrCE1_ok mixed Tryd.func90 (body_of rfl) (by kernel_rfl) false fun α a m k r h => by
  obtain ⟨a0, a1, _⟩ := a; obtain _ := m
  exact ⟨fmtInt0_M2_h, 60, fmtInt0_M2_h_ok, rfl, (fmtInt0_ev a0 a1 k).trans h⟩
noncomputable def NrCE2 : Env := NrCE1.add 90 true fmtInt0_sp
theorem NrCE2_ok : NrCE2.OK Tryd.prog := (NrCE1_ok).add_ok fmtInt0_good
def fmtInt_h0 : Hints := Hints.nil 0
theorem fmtInt_h0_ok : fmtInt_h0.OK Tryd.prog (bodyOf Tryd.f56) := Hints.nil_ok
abbrev fmtInt_R : Type := (ByteArray)
noncomputable def fmtInt_t {γ : Type} (a0 : Int) (a1 : Int) (k : fmtInt_R → Option γ) : Option γ := outOf (fmtInt0 a0 a1) fun (x1 : ByteArray) => k (x1)
noncomputable def fmtInt (a0 : Int) (a1 : Int) : Option fmtInt_R := fmtInt_t a0 a1 some
theorem fmtInt_t_eq {γ : Type} (a0 : Int) (a1 : Int) (k : fmtInt_R → Option γ) : fmtInt_t a0 a1 k = outOf (fmtInt a0 a1) k := by
  delta fmtInt fmtInt_t; exact (Tr.bd fun x1 => Tr.lf)
noncomputable def fmtInt_sp : TX.Spec := specD [.val (.int .i64), .val (.int .i64)] [] fun _ a m k => match a, m with | ⟨a0, a1, _⟩, _ => outOf (fmtInt a0 a1) fun v => k (.lit (.string v)) []
theorem fmtInt_ev {α : Type} (a0 : Int) (a1 : Int) (k : Kont α) : evFun Tryd.prog NrCE2 (fmtInt_h0) false Tryd.f56 (bodyOf Tryd.f56) 60 (mkS [.val (.int .i64), .val (.int .i64)] (a0, a1, ())) (mkH [] ()) k = outOf (fmtInt a0 a1) fun v => k (.lit (.string v)) [] :=
  (show _ = fmtInt_t a0 a1 (fun v => k (.lit (.string v)) []) from by kernel_rfl).trans (fmtInt_t_eq a0 a1 _)
theorem fmtInt_good : TX.Good Tryd.prog 56 fmtInt_sp := good_form NrCE2_ok mixed Tryd.func56 (body_of rfl) (by kernel_rfl) false fun α a m k r h => by
  obtain ⟨a0, a1, _⟩ := a; obtain _ := m
  exact ⟨fmtInt_h0, 60, fmtInt_h0_ok, rfl, (fmtInt_ev a0 a1 k).trans h⟩
noncomputable def NrCE3 : Env := NrCE2.add 56 true fmtInt_sp
theorem NrCE3_ok : NrCE3.OK Tryd.prog := (NrCE2_ok).add_ok fmtInt_good
def num_Sign_h0 : Hints := Hints.nil 0
theorem num_Sign_h0_ok : num_Sign_h0.OK Tryd.prog (bodyOf Tryd.f18) := Hints.nil_ok
def num_Sign_M1_A : List SD := [.val (.int .i64), .any, .any, .any, .any, .any, .any, .any, .any, .any, .any, .any]
def num_Sign_M1_H : List HD := []
abbrev num_Sign_M1_D : Type := Int
def num_Sign_M1_to (a : DenS num_Sign_M1_A) (m : DenH num_Sign_M1_H) : num_Sign_M1_D := (a.1)
def num_Sign_M1_ofA (d : num_Sign_M1_D) : DenS num_Sign_M1_A := match d with | (s0) => (s0, (), (), (), (), (), (), (), (), (), (), (), ())
def num_Sign_M1_ofH (d : num_Sign_M1_D) : DenH num_Sign_M1_H := match d with | (s0) => ()
def num_Sign_M1_N : Norm := (⟨[0], [], []⟩ : Go.TX.Norm)
def num_Sign_M1_X : Exit → Norm := fun e => match e with | .normal => ⟨[0], [], []⟩ | .ret => ⟨[2], [], []⟩ | _ => ⟨[], [], []⟩
abbrev num_Sign_M1_R : Type := ((ByteArray) ⊕ (Unit))
def num_Sign_M1_fin (d : num_Sign_M1_D) (v : num_Sign_M1_R) : Exit × St := sumOf v (fun v => (.ret, ⟨[.any, .any, .lit (.string v), .any, .any, .any, .any, .any, .any, .any, .any, .any], []⟩)) (fun v => (.normal, ⟨[.lit (.int .i64 d), .any, .any, .any, .any, .any, .any, .any, .any, .any, .any, .any], []⟩))
noncomputable def num_Sign_M1_t {γ : Type} (s0 : Int) (k : num_Sign_M1_R → Option γ) : Option γ := cond (decide (s0 < (0 : Int))) (k (.inl (bytesOf []))) (cond (decide (s0 ≥ (36 : Int))) (k (.inl (bytesOf []))) (k (.inr ())))
noncomputable def num_Sign_M1 (s0 : Int) : Option num_Sign_M1_R := num_Sign_M1_t s0 some
theorem num_Sign_M1_t_eq {γ : Type} (s0 : Int) (k : num_Sign_M1_R → Option γ) : num_Sign_M1_t s0 k = outOf (num_Sign_M1 s0) k := by
  delta num_Sign_M1 num_Sign_M1_t; exact (Tr.nd Tr.lf (Tr.nd Tr.lf Tr.lf))
theorem num_Sign_M1_ev (α : Type) (d : num_Sign_M1_D) (k : Exit → St → Option α) : ev Tryd.prog NrCE3 num_Sign_h0 60 [0, 1] ((codeAt (bodyOf Tryd.f18) [0, 1]).getD .skip) ⟨mkS num_Sign_M1_A (num_Sign_M1_ofA d), mkH num_Sign_M1_H (num_Sign_M1_ofH d)⟩ (exitN 0 num_Sign_M1_X k) = outOf (num_Sign_M1 d) fun x => k (num_Sign_M1_fin d x).1 (num_Sign_M1_fin d x).2 := by
  revert d; intro s0
  exact (show _ = num_Sign_M1_t s0 (fun x => k (num_Sign_M1_fin (s0) x).1 (num_Sign_M1_fin (s0) x).2) from by kernel_rfl).trans (num_Sign_M1_t_eq s0 _)
noncomputable def num_Sign_M1_sp : CSpec := fun _ st k => reNorm 0 num_Sign_M1_N num_Sign_M1_A num_Sign_M1_H st fun a m => outOf (num_Sign_M1 (num_Sign_M1_to a m)) fun v => sumOf v (fun v => k .ret ⟨[.any, .any, .lit (.string v), .any, .any, .any, .any, .any, .any, .any, .any, .any], []⟩) (fun v => k .normal ⟨[.lit (.int .i64 (num_Sign_M1_to a m)), .any, .any, .any, .any, .any, .any, .any, .any, .any, .any, .any], []⟩)
theorem num_Sign_M1_ok : SumOK Tryd.prog 0 ((codeAt (bodyOf Tryd.f18) [0, 1]).getD .skip) num_Sign_M1_sp := (SumOK.once NrCE3_ok mixed num_Sign_h0_ok (show codeAt (bodyOf Tryd.f18) [0, 1] = some ((codeAt (bodyOf Tryd.f18) [0, 1]).getD .skip) from by kernel_rfl) (N := num_Sign_M1_N) (Nx := num_Sign_M1_X) (A := num_Sign_M1_A) (Hs := num_Sign_M1_H) (toD := num_Sign_M1_to) (ofA := num_Sign_M1_ofA) (ofH := num_Sign_M1_ofH) (fun _ _ => rfl) (fun _ _ => rfl) (M := fun d => num_Sign_M1 d) (fin := num_Sign_M1_fin) 60 num_Sign_M1_ev).mono fun α st k r h => by
  refine Eq.trans (congrArg (reNorm 0 num_Sign_M1_N num_Sign_M1_A num_Sign_M1_H st) ?_) h
  funext a m
  exact outOf_congr fun x => by rcases x with x | x <;> rfl
noncomputable def num_Sign_M1_h : Hints := num_Sign_h0.add [0, 1] num_Sign_M1_sp
theorem num_Sign_M1_h_ok : num_Sign_M1_h.OK Tryd.prog (bodyOf Tryd.f18) := num_Sign_h0_ok.add (show codeAt (bodyOf Tryd.f18) [0, 1] = some ((codeAt (bodyOf Tryd.f18) [0, 1]).getD .skip) from by kernel_rfl) num_Sign_M1_ok
abbrev num_Sign_R : Type := (ByteArray)
noncomputable def num_Sign_t {γ : Type} (a0 : Int) (k : num_Sign_R → Option γ) : Option γ := outOf (num_Sign_M1 a0) fun (x1 : ByteArray ⊕ Unit) => sumOf x1 (fun x2 => k (x2)) (fun x3 => outOf (fmtInt a0 (36 : Int)) fun (x4 : ByteArray) => cond (ascii x4 && decide (ByteArray.size x4 ≤ (140737488355328 : Nat))) (k (upperS x4)) (none))
noncomputable def num_Sign (a0 : Int) : Option num_Sign_R := num_Sign_t a0 some
theorem num_Sign_t_eq {γ : Type} (a0 : Int) (k : num_Sign_R → Option γ) : num_Sign_t a0 k = outOf (num_Sign a0) k := by
  delta num_Sign num_Sign_t; exact (Tr.bd fun x1 => (Tr.cs (fun x2 => Tr.lf) (fun x3 => (Tr.bd fun x4 => (Tr.nd Tr.lf Tr.no)))))
noncomputable def num_Sign_sp : TX.Spec := specD [.val (.int .i64)] [] fun _ a m k => match a, m with | ⟨a0, _⟩, _ => outOf (num_Sign a0) fun v => k (.lit (.string v)) []
theorem num_Sign_ev {α : Type} (a0 : Int) (k : Kont α) : evFun Tryd.prog NrCE3 (num_Sign_M1_h) false Tryd.f18 (bodyOf Tryd.f18) 60 (mkS [.val (.int .i64)] (a0, ())) (mkH [] ()) k = outOf (num_Sign a0) fun v => k (.lit (.string v)) [] :=
  (show _ = num_Sign_t a0 (fun v => k (.lit (.string v)) []) from by kernel_rfl).trans (num_Sign_t_eq a0 _)
theorem num_Sign_good : TX.Good Tryd.prog 18 num_Sign_sp := good_form NrCE3_ok mixed Tryd.func18 (body_of rfl) (by kernel_rfl) false fun α a m k r h => by
  obtain ⟨a0, _⟩ := a; obtain _ := m
  exact ⟨num_Sign_M1_h, 60, num_Sign_M1_h_ok, rfl, (num_Sign_ev a0 k).trans h⟩
def num_Text_h0 : Hints := Hints.nil 0
theorem num_Text_h0_ok : num_Text_h0.OK Tryd.prog (bodyOf Tryd.f23) := Hints.nil_ok
abbrev num_Text_R : Type := (ByteArray)
noncomputable def num_Text_t {γ : Type} (a0 : Int) (a1 : Int) (k : num_Text_R → Option γ) : Option γ := outOf (num_good a1) fun (x1 : Bool) => cond (!x1) (k (bytesOf [])) (outOf (fmtInt a0 a1) fun (x2 : ByteArray) => cond (ascii x2 && decide (ByteArray.size x2 ≤ (140737488355328 : Nat))) (k (upperS x2)) (none))
noncomputable def num_Text (a0 : Int) (a1 : Int) : Option num_Text_R := num_Text_t a0 a1 some
theorem num_Text_t_eq {γ : Type} (a0 : Int) (a1 : Int) (k : num_Text_R → Option γ) : num_Text_t a0 a1 k = outOf (num_Text a0 a1) k := by
  delta num_Text num_Text_t; exact (Tr.bd fun x1 => (Tr.nd Tr.lf (Tr.bd fun x2 => (Tr.nd Tr.lf Tr.no))))
noncomputable def num_Text_sp : TX.Spec := specD [.val (.int .i64), .val (.int .i64)] [] fun _ a m k => match a, m with | ⟨a0, a1, _⟩, _ => outOf (num_Text a0 a1) fun v => k (.lit (.string v)) []
theorem num_Text_ev {α : Type} (a0 : Int) (a1 : Int) (k : Kont α) : evFun Tryd.prog NrCE3 (num_Text_h0) false Tryd.f23 (bodyOf Tryd.f23) 60 (mkS [.val (.int .i64), .val (.int .i64)] (a0, a1, ())) (mkH [] ()) k = outOf (num_Text a0 a1) fun v => k (.lit (.string v)) [] :=
  (show _ = num_Text_t a0 a1 (fun v => k (.lit (.string v)) []) from by kernel_rfl).trans (num_Text_t_eq a0 a1 _)
theorem num_Text_good : TX.Good Tryd.prog 23 num_Text_sp := good_form NrCE3_ok mixed Tryd.func23 (body_of rfl) (by kernel_rfl) false fun α a m k r h => by
  obtain ⟨a0, a1, _⟩ := a; obtain _ := m
  exact ⟨num_Text_h0, 60, num_Text_h0_ok, rfl, (num_Text_ev a0 a1 k).trans h⟩
noncomputable def NrCE4 : Env := NrCE3.add 18 true num_Sign_sp |>.add 23 true num_Text_sp
theorem NrCE4_ok : NrCE4.OK Tryd.prog := ((NrCE3_ok).add_ok num_Sign_good).add_ok num_Text_good
end Go.Proofs.Dbl
