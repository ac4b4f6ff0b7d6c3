import Derived.Test.YtfmdhcialeddaaaDoorNuH
namespace Go.Proofs.Dbl
open Go Go.TX Go.Proofs
set_option maxRecDepth 100000
set_option linter.unusedVariables false
set_option maxHeartbeats 0
def cell_Aligned_h0 : Hints := Hints.nil 0
theorem cell_Aligned_h0_ok : cell_Aligned_h0.OK Tryd.prog (bodyOf Tryd.f119) := Hints.nil_ok
noncomputable def cell_Aligned (a0 : Int) : Int := (ibits BinOp.andNot IntKind.i64 (IntKind.wrap IntKind.i64 (IntKind.wrap IntKind.i64 (a0 + (8 : Int)) - (1 : Int))) (7 : Int))
noncomputable def cell_Aligned_sp : TX.Spec := specD [.val (.int .i64)] [] fun _ a m k => match a, m with | ⟨a0, _⟩, _ => k (.lit (.int .i64 (cell_Aligned a0))) []
theorem cell_Aligned_ev {α : Type} (a0 : Int) (k : Kont α) : evFun Tryd.prog NH0 (cell_Aligned_h0) false Tryd.f119 (bodyOf Tryd.f119) 60 (mkS [.val (.int .i64)] (a0, ())) (mkH [] ()) k = k (.lit (.int .i64 (cell_Aligned a0))) [] :=
  by kernel_rfl
theorem cell_Aligned_good : TX.Good Tryd.prog 119 cell_Aligned_sp := good_form NH0_ok mixed Tryd.func119 (body_of rfl) (by kernel_rfl) false fun α a m k r h => by
  obtain ⟨a0, _⟩ := a; obtain _ := m
  exact ⟨cell_Aligned_h0, 60, cell_Aligned_h0_ok, rfl, (cell_Aligned_ev a0 k).trans h⟩
def mem_span_h0 : Hints := Hints.nil 0
theorem mem_span_h0_ok : mem_span_h0.OK Tryd.prog (bodyOf Tryd.f68) := Hints.nil_ok
abbrev mem_span_R : Type := ((List Int) × Bool)
noncomputable def mem_span_t {γ : Type} (a0 : (List Int)) (a1 : Int) (a2 : Int) (k : mem_span_R → Option γ) : Option γ := cond (decide (a1 < (0 : Int))) (k ([], false)) (cond (decide (a2 < (0 : Int))) (k ([], false)) (cond (decide (a1 > (↑(List.length a0) : Int))) (k ([], false)) (cond (decide (a2 > IntKind.wrap IntKind.i64 ((↑(List.length a0) : Int) - a1))) (k ([], false)) (cond (decide ((0 : Int) ≤ a1 ∧ a1 ≤ IntKind.wrap IntKind.i64 (a1 + a2) ∧ IntKind.wrap IntKind.i64 (a1 + a2) ≤ IntKind.wrap IntKind.i64 (a1 + a2) ∧ IntKind.wrap IntKind.i64 (a1 + a2) ≤ (↑(List.length a0) : Int))) (k (List.take (Int.toNat (IntKind.wrap IntKind.i64 (a1 + a2)) - Int.toNat a1) (List.drop (Int.toNat a1) a0), true)) (none)))))
noncomputable def mem_span (a0 : (List Int)) (a1 : Int) (a2 : Int) : Option mem_span_R := mem_span_t a0 a1 a2 some
theorem mem_span_t_eq {γ : Type} (a0 : (List Int)) (a1 : Int) (a2 : Int) (k : mem_span_R → Option γ) : mem_span_t a0 a1 a2 k = outOf (mem_span a0 a1 a2) k := by
  delta mem_span mem_span_t; exact (Tr.nd Tr.lf (Tr.nd Tr.lf (Tr.nd Tr.lf (Tr.nd Tr.lf (Tr.nd Tr.lf Tr.no)))))
noncomputable def mem_span_sp : TX.Spec := specD [.val (.sl (.int .u8)), .val (.int .i64), .val (.int .i64)] [] fun _ a m k => match a, m with | ⟨a0, a1, a2, _⟩, _ => outOf (mem_span a0 a1 a2) fun v => k (.tup [.sl (.int .u8) v.1 false, .lit (.bool v.2)]) []
theorem mem_span_ev {α : Type} (a0 : (List Int)) (a1 : Int) (a2 : Int) (k : Kont α) : evFun Tryd.prog NH0 (mem_span_h0) false Tryd.f68 (bodyOf Tryd.f68) 60 (mkS [.val (.sl (.int .u8)), .val (.int .i64), .val (.int .i64)] (a0, a1, a2, ())) (mkH [] ()) (fun v H => k (weakF v) H) = outOf (mem_span a0 a1 a2) fun v => k (.tup [.sl (.int .u8) v.1 false, .lit (.bool v.2)]) [] :=
  (show _ = mem_span_t a0 a1 a2 (fun v => k (.tup [.sl (.int .u8) v.1 false, .lit (.bool v.2)]) []) from by kernel_rfl).trans (mem_span_t_eq a0 a1 a2 _)
theorem mem_span_good : TX.Good Tryd.prog 68 mem_span_sp := good_form_weak NH0_ok mixed Tryd.func68 (body_of rfl) (by kernel_rfl) false mem_span_h0 60 mem_span_h0_ok rfl fun α a m k r h => by
  obtain ⟨a0, a1, a2, _⟩ := a; obtain _ := m
  exact (mem_span_ev a0 a1 a2 k).trans h
def bytes_Clone_h0 : Hints := Hints.nil 0
theorem bytes_Clone_h0_ok : bytes_Clone_h0.OK Tryd.prog (bodyOf Tryd.f120) := Hints.nil_ok
abbrev bytes_Clone_R : Type := (Nat × (List Int))
noncomputable def bytes_Clone_t {γ : Type} (a0 : (List Int)) (k : bytes_Clone_R → Option γ) : Option γ := cond (List.isEmpty a0) (none) (cond (decide (List.length a0 ≤ (2147483648 : Nat))) (k (List.length a0, a0)) (none))
noncomputable def bytes_Clone (a0 : (List Int)) : Option bytes_Clone_R := bytes_Clone_t a0 some
theorem bytes_Clone_t_eq {γ : Type} (a0 : (List Int)) (k : bytes_Clone_R → Option γ) : bytes_Clone_t a0 k = outOf (bytes_Clone a0) k := by
  delta bytes_Clone bytes_Clone_t; exact (Tr.nd Tr.no (Tr.nd Tr.lf Tr.no))
noncomputable def bytes_Clone_sp : TX.Spec := specD [.val (.sl (.int .u8))] [] fun _ a m k => match a, m with | ⟨a0, _⟩, _ => outOf (bytes_Clone a0) fun v => k (.msl 0 0 v.1) [.row (.int .u8) v.2]
theorem bytes_Clone_ev {α : Type} (a0 : (List Int)) (k : Kont α) : evFun Tryd.prog NH0 (bytes_Clone_h0) true Tryd.f120 (bodyOf Tryd.f120) 60 (mkS [.val (.sl (.int .u8))] (a0, ())) (mkH [] ()) k = outOf (bytes_Clone a0) fun v => k (.msl 0 0 v.1) [.row (.int .u8) v.2] :=
  (show _ = bytes_Clone_t a0 (fun v => k (.msl 0 0 v.1) [.row (.int .u8) v.2]) from by kernel_rfl).trans (bytes_Clone_t_eq a0 _)
theorem bytes_Clone_good : TX.Good Tryd.prog 120 bytes_Clone_sp := good_form NH0_ok mixed Tryd.func120 (body_of rfl) (by kernel_rfl) true fun α a m k r h => by
  obtain ⟨a0, _⟩ := a; obtain _ := m
  exact ⟨bytes_Clone_h0, 60, bytes_Clone_h0_ok, rfl, (bytes_Clone_ev a0 k).trans h⟩
def bits_Mul_h0 : Hints := Hints.nil 0
theorem bits_Mul_h0_ok : bits_Mul_h0.OK Tryd.prog (bodyOf Tryd.f136) := Hints.nil_ok
noncomputable def bits_Mul (a0 : Int) (a1 : Int) : Int × Int := (Prod.fst (mul64 a0 a1), Prod.snd (mul64 a0 a1))
noncomputable def bits_Mul_sp : TX.Spec := specD [.val (.int .u64), .val (.int .u64)] [] fun _ a m k => match a, m with | ⟨a0, a1, _⟩, _ => k (.tup [.lit (.int .u64 ((bits_Mul a0 a1).1)), .lit (.int .u64 ((bits_Mul a0 a1).2))]) []
theorem bits_Mul_ev {α : Type} (a0 : Int) (a1 : Int) (k : Kont α) : evFun Tryd.prog NH0 (bits_Mul_h0) false Tryd.f136 (bodyOf Tryd.f136) 60 (mkS [.val (.int .u64), .val (.int .u64)] (a0, a1, ())) (mkH [] ()) k = k (.tup [.lit (.int .u64 ((bits_Mul a0 a1).1)), .lit (.int .u64 ((bits_Mul a0 a1).2))]) [] :=
  by kernel_rfl
theorem bits_Mul_good : TX.Good Tryd.prog 136 bits_Mul_sp := good_form NH0_ok mixed Tryd.func136 (body_of rfl) (by kernel_rfl) false fun α a m k r h => by
  obtain ⟨a0, a1, _⟩ := a; obtain _ := m
  exact ⟨bits_Mul_h0, 60, bits_Mul_h0_ok, rfl, (bits_Mul_ev a0 a1 k).trans h⟩
def mem_word_h0 : Hints := Hints.nil 0
theorem mem_word_h0_ok : mem_word_h0.OK Tryd.prog (bodyOf Tryd.f97) := Hints.nil_ok
def mem_word_L1_A : List SD := [.val (.int .i64), .any, .any, .loc 0 0 0, .any, .val (.int .i64), .any, .any, .any, .any, .any, .any, .any, .any, .any, .any, .any, .any, .any]
def mem_word_L1_H : List HD := [.row (.int .u8)]
abbrev mem_word_L1_D : Type := Int × Int × (List Int)
def mem_word_L1_to (a : DenS mem_word_L1_A) (m : DenH mem_word_L1_H) : mem_word_L1_D := (a.1, a.2.2.2.2.2.1, m.1)
def mem_word_L1_ofA (d : mem_word_L1_D) : DenS mem_word_L1_A := match d with | (s0, s5, m0) => (s0, (), (), (), (), s5, (), (), (), (), (), (), (), (), (), (), (), (), (), ())
def mem_word_L1_ofH (d : mem_word_L1_D) : DenH mem_word_L1_H := match d with | (s0, s5, m0) => (m0, ())
def mem_word_L1_N : Norm := (⟨[0, 3, 5], [], []⟩ : Go.TX.Norm)
def mem_word_L1_X : Exit → Norm := fun e => match e with | .exit 0 => ⟨[3], [], []⟩ | _ => ⟨[], [], []⟩
abbrev mem_word_L1_R : Type := ((List Int))
def mem_word_L1_fin (v : mem_word_L1_R) : Exit × St := ((.exit 0), ⟨[.any, .any, .any, .ptr 0 0 0, .any, .any, .any, .any, .any, .any, .any, .any, .any, .any, .any, .any, .any, .any, .any], [.row (.int .u8) v]⟩)
noncomputable def mem_word_L1_t {γ : Type} (s0 : Int) (s5 : Int) (m0 : (List Int)) (next : mem_word_L1_D → Option γ) (out : mem_word_L1_R → Option γ) : Option γ := cond (decide (s5 < (8 : Int))) (cond (decide (IntKind.wrap IntKind.u64 (IntKind.wrap IntKind.i64 (s5 * (8 : Int))) < (0 : Int))) (none) (cond (decide ((0 : Int) ≤ s5 ∧ s5 < (8 : Int) ∧ (0 : Nat) + Int.toNat s5 < List.length m0)) (next (s0, IntKind.wrap IntKind.i64 (s5 + (1 : Int)), List.set m0 ((0 : Nat) + Int.toNat s5) (IntKind.wrap IntKind.u8 (Int.fdiv (IntKind.wrap IntKind.u64 s0) ((2 : Int) ^ min (Int.toNat (IntKind.wrap IntKind.u64 (IntKind.wrap IntKind.i64 (s5 * (8 : Int))))) (64 : Nat)))))) (none))) (out (m0))
noncomputable def mem_word_L1_pass (d : mem_word_L1_D) : Option (mem_word_L1_D ⊕ mem_word_L1_R) := mem_word_L1_t d.1 d.2.1 d.2.2 (fun d => some (.inl d)) (fun x => some (.inr x))
theorem mem_word_L1_t_eq {γ : Type} (s0 : Int) (s5 : Int) (m0 : (List Int)) (next : mem_word_L1_D → Option γ) (out : mem_word_L1_R → Option γ) : mem_word_L1_t s0 s5 m0 next out = PassOf (mem_word_L1_t s0 s5 m0 (fun d => some (.inl d)) (fun x => some (.inr x))) next out := by
  delta mem_word_L1_t; exact (Ps.nd (Ps.nd Ps.no (Ps.nd Ps.nx Ps.no)) Ps.ou)
theorem mem_word_L1_ev (α : Type) (d : mem_word_L1_D) (next : mem_word_L1_D → Option α) (k : Exit → St → Option α) : ev Tryd.prog NH0 mem_word_h0 60 [0, 0, 1, 0, 1, 1] ((codeAt (bodyOf Tryd.f97) [0, 0, 1, 0, 1, 1]).getD .skip) ⟨mkS mem_word_L1_A (mem_word_L1_ofA d), mkH mem_word_L1_H (mem_word_L1_ofH d)⟩ (passK 0 mem_word_L1_N mem_word_L1_A mem_word_L1_H mem_word_L1_X (fun a m => next (mem_word_L1_to a m)) k) = PassOf (mem_word_L1_pass d) next fun x => k (mem_word_L1_fin x).1 (mem_word_L1_fin x).2 := by
  obtain ⟨s0, s5, m0⟩ := d
  exact (show _ = mem_word_L1_t s0 s5 m0 next (fun x => k (mem_word_L1_fin x).1 (mem_word_L1_fin x).2) from by kernel_rfl).trans (mem_word_L1_t_eq s0 s5 m0 _ _)
noncomputable def mem_word_L1 (d : mem_word_L1_D) : Option mem_word_L1_R := runs mem_word_L1_pass d
noncomputable def mem_word_L1_sp : CSpec := fun _ st k => reNorm 0 mem_word_L1_N mem_word_L1_A mem_word_L1_H st fun a m => outOf (mem_word_L1 (mem_word_L1_to a m)) fun v => k (.exit 0) ⟨[.any, .any, .any, .ptr 0 0 0, .any, .any, .any, .any, .any, .any, .any, .any, .any, .any, .any, .any, .any, .any, .any], [.row (.int .u8) v]⟩
theorem mem_word_L1_ok : SumOK Tryd.prog 0 (.loop ((codeAt (bodyOf Tryd.f97) [0, 0, 1, 0, 1, 1]).getD .skip)) mem_word_L1_sp := (SumOK.loop NH0_ok mixed mem_word_h0_ok (show codeAt (bodyOf Tryd.f97) [0, 1, 0, 1, 1] = some (.loop ((codeAt (bodyOf Tryd.f97) [0, 0, 1, 0, 1, 1]).getD .skip)) from by kernel_rfl) (N := mem_word_L1_N) (Nx := mem_word_L1_X) (A := mem_word_L1_A) (Hs := mem_word_L1_H) (toD := mem_word_L1_to) (ofA := mem_word_L1_ofA) (ofH := mem_word_L1_ofH) (fun _ _ => rfl) (fun _ _ => rfl) (pass := mem_word_L1_pass) (fin := mem_word_L1_fin) 60 mem_word_L1_ev (steps mem_word_L1_pass)).mono fun α st k r h => by
  refine Eq.trans (congrArg (reNorm 0 mem_word_L1_N mem_word_L1_A mem_word_L1_H st) ?_) h
  funext a m
  exact outOf_congr fun x => rfl
noncomputable def mem_word_L1_h : Hints := mem_word_h0.add [0, 1, 0, 1, 1] mem_word_L1_sp
theorem mem_word_L1_h_ok : mem_word_L1_h.OK Tryd.prog (bodyOf Tryd.f97) := mem_word_h0_ok.add (show codeAt (bodyOf Tryd.f97) [0, 1, 0, 1, 1] = some (.loop ((codeAt (bodyOf Tryd.f97) [0, 0, 1, 0, 1, 1]).getD .skip)) from by kernel_rfl) mem_word_L1_ok
abbrev mem_word_R : Type := ((List Int))
noncomputable def mem_word_t {γ : Type} (a0 : Int) (k : mem_word_R → Option γ) : Option γ := outOf (mem_word_L1 (a0, (0 : Int), [(0 : Int), (0 : Int), (0 : Int), (0 : Int), (0 : Int), (0 : Int), (0 : Int), (0 : Int)])) fun (x1 : (List Int)) => cond (decide (List.length x1 = (8 : Nat))) (k (List.take (8 : Nat) (List.drop (0 : Nat) x1))) (none)
noncomputable def mem_word (a0 : Int) : Option mem_word_R := mem_word_t a0 some
theorem mem_word_t_eq {γ : Type} (a0 : Int) (k : mem_word_R → Option γ) : mem_word_t a0 k = outOf (mem_word a0) k := by
  delta mem_word mem_word_t; exact (Tr.bd fun x1 => (Tr.nd Tr.lf Tr.no))
noncomputable def mem_word_sp : TX.Spec := specD [.val (.int .i64)] [] fun _ a m k => match a, m with | ⟨a0, _⟩, _ => outOf (mem_word a0) fun v => k (.sl (.int .u8) v false) []
theorem mem_word_ev {α : Type} (a0 : Int) (k : Kont α) : evFun Tryd.prog NH0 (mem_word_L1_h) false Tryd.f97 (bodyOf Tryd.f97) 60 (mkS [.val (.int .i64)] (a0, ())) (mkH [] ()) k = outOf (mem_word a0) fun v => k (.sl (.int .u8) v false) [] :=
  (show _ = mem_word_t a0 (fun v => k (.sl (.int .u8) v false) []) from by kernel_rfl).trans (mem_word_t_eq a0 _)
theorem mem_word_good : TX.Good Tryd.prog 97 mem_word_sp := good_form NH0_ok mixed Tryd.func97 (body_of rfl) (by kernel_rfl) false fun α a m k r h => by
  obtain ⟨a0, _⟩ := a; obtain _ := m
  exact ⟨mem_word_L1_h, 60, mem_word_L1_h_ok, rfl, (mem_word_ev a0 k).trans h⟩
def mem_New_h0 : Hints := Hints.nil 0
theorem mem_New_h0_ok : mem_New_h0.OK Tryd.prog (bodyOf Tryd.f63) := Hints.nil_ok
abbrev mem_New_R : Type := ((List Int))
noncomputable def mem_New_t {γ : Type} (a0 : Int) (k : mem_New_R → Option γ) : Option γ := cond (decide (((0 : Int) ≤ if (if (5120 : Int) < a0 then (5120 : Int) else a0) > (0 : Int) then if (5120 : Int) < a0 then (5120 : Int) else a0 else (0 : Int)) ∧ ((if (if (5120 : Int) < a0 then (5120 : Int) else a0) > (0 : Int) then if (5120 : Int) < a0 then (5120 : Int) else a0 else (0 : Int)) ≤ if (if (5120 : Int) < a0 then (5120 : Int) else a0) > (0 : Int) then if (5120 : Int) < a0 then (5120 : Int) else a0 else (0 : Int)) ∧ (if (if (5120 : Int) < a0 then (5120 : Int) else a0) > (0 : Int) then if (5120 : Int) < a0 then (5120 : Int) else a0 else (0 : Int)) ≤ (2147483648 : Int))) (k (List.take (Int.toNat (if (if (5120 : Int) < a0 then (5120 : Int) else a0) > (0 : Int) then if (5120 : Int) < a0 then (5120 : Int) else a0 else (0 : Int))) (List.drop (0 : Nat) (List.replicate (Int.toNat (if (if (5120 : Int) < a0 then (5120 : Int) else a0) > (0 : Int) then if (5120 : Int) < a0 then (5120 : Int) else a0 else (0 : Int))) (0 : Int))))) (none)
noncomputable def mem_New (a0 : Int) : Option mem_New_R := mem_New_t a0 some
theorem mem_New_t_eq {γ : Type} (a0 : Int) (k : mem_New_R → Option γ) : mem_New_t a0 k = outOf (mem_New a0) k := by
  delta mem_New mem_New_t; exact (Tr.nd Tr.lf Tr.no)
noncomputable def mem_New_sp : TX.Spec := specD [.val (.int .i64)] [] fun _ a m k => match a, m with | ⟨a0, _⟩, _ => outOf (mem_New a0) fun v => k (.sl (.int .u8) v false) []
theorem mem_New_ev {α : Type} (a0 : Int) (k : Kont α) : evFun Tryd.prog NH0 (mem_New_h0) false Tryd.f63 (bodyOf Tryd.f63) 60 (mkS [.val (.int .i64)] (a0, ())) (mkH [] ()) k = outOf (mem_New a0) fun v => k (.sl (.int .u8) v false) [] :=
  (show _ = mem_New_t a0 (fun v => k (.sl (.int .u8) v false) []) from by kernel_rfl).trans (mem_New_t_eq a0 _)
theorem mem_New_good : TX.Good Tryd.prog 63 mem_New_sp := good_form NH0_ok mixed Tryd.func63 (body_of rfl) (by kernel_rfl) false fun α a m k r h => by
  obtain ⟨a0, _⟩ := a; obtain _ := m
  exact ⟨mem_New_h0, 60, mem_New_h0_ok, rfl, (mem_New_ev a0 k).trans h⟩
noncomputable def NrIE1 : Env := NH0.add 119 true cell_Aligned_sp |>.add 68 true mem_span_sp |>.add 120 false bytes_Clone_sp |>.add 136 true bits_Mul_sp |>.add 97 true mem_word_sp |>.add 63 true mem_New_sp
theorem NrIE1_ok : NrIE1.OK Tryd.prog := ((((((NH0_ok).add_ok cell_Aligned_good).add_ok mem_span_good).add_ok bytes_Clone_good).add_ok bits_Mul_good).add_ok mem_word_good).add_ok mem_New_good
def mem_slot_h0 : Hints := Hints.nil 0
theorem mem_slot_h0_ok : mem_slot_h0.OK Tryd.prog (bodyOf Tryd.f95) := Hints.nil_ok
abbrev mem_slot_R : Type := ((List Int) × Int)
noncomputable def mem_slot_t {γ : Type} (a0 : (List Int)) (a1 : Int) (k : mem_slot_R → Option γ) : Option γ := outOf (mem_span a0 a1 (8 : Int)) fun (x2 : ((List Int) × Bool)) => cond (!Prod.snd x2) (k ([], (-9 : Int))) (cond (a1 != cell_Aligned a1) (k ([], (-23 : Int))) (k (Prod.fst x2, (0 : Int))))
noncomputable def mem_slot (a0 : (List Int)) (a1 : Int) : Option mem_slot_R := mem_slot_t a0 a1 some
theorem mem_slot_t_eq {γ : Type} (a0 : (List Int)) (a1 : Int) (k : mem_slot_R → Option γ) : mem_slot_t a0 a1 k = outOf (mem_slot a0 a1) k := by
  delta mem_slot mem_slot_t; exact (Tr.bd fun x2 => (Tr.nd Tr.lf (Tr.nd Tr.lf Tr.lf)))
noncomputable def mem_slot_sp : TX.Spec := specD [.val (.sl (.int .u8)), .val (.int .i64)] [] fun _ a m k => match a, m with | ⟨a0, a1, _⟩, _ => outOf (mem_slot a0 a1) fun v => k (.tup [.sl (.int .u8) v.1 false, .lit (.int .i64 v.2)]) []
theorem mem_slot_ev {α : Type} (a0 : (List Int)) (a1 : Int) (k : Kont α) : evFun Tryd.prog NrIE1 (mem_slot_h0) false Tryd.f95 (bodyOf Tryd.f95) 60 (mkS [.val (.sl (.int .u8)), .val (.int .i64)] (a0, a1, ())) (mkH [] ()) (fun v H => k (weakF v) H) = outOf (mem_slot a0 a1) fun v => k (.tup [.sl (.int .u8) v.1 false, .lit (.int .i64 v.2)]) [] :=
  (show _ = mem_slot_t a0 a1 (fun v => k (.tup [.sl (.int .u8) v.1 false, .lit (.int .i64 v.2)]) []) from by kernel_rfl).trans (mem_slot_t_eq a0 a1 _)
theorem mem_slot_good : TX.Good Tryd.prog 95 mem_slot_sp := good_form_weak NrIE1_ok mixed Tryd.func95 (body_of rfl) (by kernel_rfl) false mem_slot_h0 60 mem_slot_h0_ok rfl fun α a m k r h => by
  obtain ⟨a0, a1, _⟩ := a; obtain _ := m
  exact (mem_slot_ev a0 a1 k).trans h
def bytes_Repeat_h0 : Hints := Hints.nil 0
theorem bytes_Repeat_h0_ok : bytes_Repeat_h0.OK Tryd.prog (bodyOf Tryd.f121) := Hints.nil_ok
def bytes_Repeat_M1_A : List SD := [.val (.sl (.int .u8)), .val (.int .i64), .any, .any, .any, .any, .any, .any, .any, .any, .any, .any, .any, .any, .any, .any, .any, .any, .any, .any, .any, .any, .any, .any, .any, .any, .any, .any, .any, .any, .any, .any, .any, .any, .any, .any, .any, .any, .any, .any, .any, .any, .any, .any, .any, .any, .any, .any, .any, .any, .any, .any, .any, .any, .any, .any, .any, .any, .any, .any, .any, .any, .any, .any, .any, .any, .any, .any, .any, .any, .any, .any, .any, .any, .any, .any, .any]
def bytes_Repeat_M1_H : List HD := []
abbrev bytes_Repeat_M1_D : Type := (List Int) × Int
def bytes_Repeat_M1_to (a : DenS bytes_Repeat_M1_A) (m : DenH bytes_Repeat_M1_H) : bytes_Repeat_M1_D := (a.1, a.2.1)
def bytes_Repeat_M1_ofA (d : bytes_Repeat_M1_D) : DenS bytes_Repeat_M1_A := match d with | (s0, s1) => (s0, s1, (), (), (), (), (), (), (), (), (), (), (), (), (), (), (), (), (), (), (), (), (), (), (), (), (), (), (), (), (), (), (), (), (), (), (), (), (), (), (), (), (), (), (), (), (), (), (), (), (), (), (), (), (), (), (), (), (), (), (), (), (), (), (), (), (), (), (), (), (), (), (), (), (), (), (), ())
def bytes_Repeat_M1_ofH (d : bytes_Repeat_M1_D) : DenH bytes_Repeat_M1_H := match d with | (s0, s1) => ()
def bytes_Repeat_M1_N : Norm := (⟨[0, 1], [], []⟩ : Go.TX.Norm)
def bytes_Repeat_M1_X : Exit → Norm := fun e => match e with | .normal => ⟨[0, 1], [], []⟩ | _ => ⟨[], [], []⟩
abbrev bytes_Repeat_M1_R : Type := (Unit)
def bytes_Repeat_M1_fin (d : bytes_Repeat_M1_D) (v : bytes_Repeat_M1_R) : Exit × St := (.normal, ⟨[.sl (.int .u8) d.1 false, .lit (.int .i64 d.2), .any, .any, .any, .any, .any, .any, .any, .any, .any, .any, .any, .any, .any, .any, .any, .any, .any, .any, .any, .any, .any, .any, .any, .any, .any, .any, .any, .any, .any, .any, .any, .any, .any, .any, .any, .any, .any, .any, .any, .any, .any, .any, .any, .any, .any, .any, .any, .any, .any, .any, .any, .any, .any, .any, .any, .any, .any, .any, .any, .any, .any, .any, .any, .any, .any, .any, .any, .any, .any, .any, .any, .any, .any, .any, .any], []⟩)
noncomputable def bytes_Repeat_M1_t {γ : Type} (s1 : Int) (k : bytes_Repeat_M1_R → Option γ) : Option γ := cond (decide (s1 < (0 : Int))) (none) (k ())
noncomputable def bytes_Repeat_M1 (s1 : Int) : Option bytes_Repeat_M1_R := bytes_Repeat_M1_t s1 some
theorem bytes_Repeat_M1_t_eq {γ : Type} (s1 : Int) (k : bytes_Repeat_M1_R → Option γ) : bytes_Repeat_M1_t s1 k = outOf (bytes_Repeat_M1 s1) k := by
  delta bytes_Repeat_M1 bytes_Repeat_M1_t; exact (Tr.nd Tr.no Tr.lf)
theorem bytes_Repeat_M1_ev (α : Type) (d : bytes_Repeat_M1_D) (k : Exit → St → Option α) : ev Tryd.prog NrIE1 bytes_Repeat_h0 60 [0, 1, 1] ((codeAt (bodyOf Tryd.f121) [0, 1, 1]).getD .skip) ⟨mkS bytes_Repeat_M1_A (bytes_Repeat_M1_ofA d), mkH bytes_Repeat_M1_H (bytes_Repeat_M1_ofH d)⟩ (exitN 0 bytes_Repeat_M1_X k) = outOf (bytes_Repeat_M1 d.2) fun x => k (bytes_Repeat_M1_fin d x).1 (bytes_Repeat_M1_fin d x).2 := by
  obtain ⟨s0, s1⟩ := d
  exact (show _ = bytes_Repeat_M1_t s1 (fun x => k (bytes_Repeat_M1_fin (s0, s1) x).1 (bytes_Repeat_M1_fin (s0, s1) x).2) from by kernel_rfl).trans (bytes_Repeat_M1_t_eq s1 _)
noncomputable def bytes_Repeat_M1_sp : CSpec := fun _ st k => reNorm 0 bytes_Repeat_M1_N bytes_Repeat_M1_A bytes_Repeat_M1_H st fun a m => outOf (bytes_Repeat_M1 (bytes_Repeat_M1_to a m).2) fun v => k .normal ⟨[.sl (.int .u8) (bytes_Repeat_M1_to a m).1 false, .lit (.int .i64 (bytes_Repeat_M1_to a m).2), .any, .any, .any, .any, .any, .any, .any, .any, .any, .any, .any, .any, .any, .any, .any, .any, .any, .any, .any, .any, .any, .any, .any, .any, .any, .any, .any, .any, .any, .any, .any, .any, .any, .any, .any, .any, .any, .any, .any, .any, .any, .any, .any, .any, .any, .any, .any, .any, .any, .any, .any, .any, .any, .any, .any, .any, .any, .any, .any, .any, .any, .any, .any, .any, .any, .any, .any, .any, .any, .any, .any, .any, .any, .any, .any], []⟩
theorem bytes_Repeat_M1_ok : SumOK Tryd.prog 0 ((codeAt (bodyOf Tryd.f121) [0, 1, 1]).getD .skip) bytes_Repeat_M1_sp := (SumOK.once NrIE1_ok mixed bytes_Repeat_h0_ok (show codeAt (bodyOf Tryd.f121) [0, 1, 1] = some ((codeAt (bodyOf Tryd.f121) [0, 1, 1]).getD .skip) from by kernel_rfl) (N := bytes_Repeat_M1_N) (Nx := bytes_Repeat_M1_X) (A := bytes_Repeat_M1_A) (Hs := bytes_Repeat_M1_H) (toD := bytes_Repeat_M1_to) (ofA := bytes_Repeat_M1_ofA) (ofH := bytes_Repeat_M1_ofH) (fun _ _ => rfl) (fun _ _ => rfl) (M := fun d => bytes_Repeat_M1 d.2) (fin := bytes_Repeat_M1_fin) 60 bytes_Repeat_M1_ev).mono fun α st k r h => by
  refine Eq.trans (congrArg (reNorm 0 bytes_Repeat_M1_N bytes_Repeat_M1_A bytes_Repeat_M1_H st) ?_) h
  funext a m
  exact outOf_congr fun x => rfl
noncomputable def bytes_Repeat_M1_h : Hints := bytes_Repeat_h0.add [0, 1, 1] bytes_Repeat_M1_sp
theorem bytes_Repeat_M1_h_ok : bytes_Repeat_M1_h.OK Tryd.prog (bodyOf Tryd.f121) := bytes_Repeat_h0_ok.add (show codeAt (bodyOf Tryd.f121) [0, 1, 1] = some ((codeAt (bodyOf Tryd.f121) [0, 1, 1]).getD .skip) from by kernel_rfl) bytes_Repeat_M1_ok
def bytes_Repeat_M2_A : List SD := [.val (.sl (.int .u8)), .any, .any, .any, .any, .val (.int .u64), .val (.int .u64), .any, .any, .any, .any, .any, .any, .any, .any, .any, .any, .any, .any, .any, .any, .any, .any, .any, .any, .any, .any, .any, .any, .any, .any, .any, .any, .any, .any, .any, .any, .any, .any, .any, .any, .any, .any, .any, .any, .any, .any, .any, .any, .any, .any, .any, .any, .any, .any, .any, .any, .any, .any, .any, .any, .any, .any, .any, .any, .any, .any, .any, .any, .any, .any, .any, .any, .any, .any, .any, .any]
def bytes_Repeat_M2_H : List HD := []
abbrev bytes_Repeat_M2_D : Type := (List Int) × Int × Int
def bytes_Repeat_M2_to (a : DenS bytes_Repeat_M2_A) (m : DenH bytes_Repeat_M2_H) : bytes_Repeat_M2_D := (a.1, a.2.2.2.2.2.1, a.2.2.2.2.2.2.1)
def bytes_Repeat_M2_ofA (d : bytes_Repeat_M2_D) : DenS bytes_Repeat_M2_A := match d with | (s0, s5, s6) => (s0, (), (), (), (), s5, s6, (), (), (), (), (), (), (), (), (), (), (), (), (), (), (), (), (), (), (), (), (), (), (), (), (), (), (), (), (), (), (), (), (), (), (), (), (), (), (), (), (), (), (), (), (), (), (), (), (), (), (), (), (), (), (), (), (), (), (), (), (), (), (), (), (), (), (), (), (), (), ())
def bytes_Repeat_M2_ofH (d : bytes_Repeat_M2_D) : DenH bytes_Repeat_M2_H := match d with | (s0, s5, s6) => ()
def bytes_Repeat_M2_N : Norm := (⟨[0, 5, 6], [], []⟩ : Go.TX.Norm)
def bytes_Repeat_M2_X : Exit → Norm := fun e => match e with | .normal => ⟨[0, 6], [], []⟩ | _ => ⟨[], [], []⟩
abbrev bytes_Repeat_M2_R : Type := (Unit)
def bytes_Repeat_M2_fin (d : bytes_Repeat_M2_D) (v : bytes_Repeat_M2_R) : Exit × St := (.normal, ⟨[.sl (.int .u8) d.1 false, .any, .any, .any, .any, .any, .lit (.int .u64 d.2.2), .any, .any, .any, .any, .any, .any, .any, .any, .any, .any, .any, .any, .any, .any, .any, .any, .any, .any, .any, .any, .any, .any, .any, .any, .any, .any, .any, .any, .any, .any, .any, .any, .any, .any, .any, .any, .any, .any, .any, .any, .any, .any, .any, .any, .any, .any, .any, .any, .any, .any, .any, .any, .any, .any, .any, .any, .any, .any, .any, .any, .any, .any, .any, .any, .any, .any, .any, .any, .any, .any], []⟩)
noncomputable def bytes_Repeat_M2_t {γ : Type} (s5 : Int) (s6 : Int) (k : bytes_Repeat_M2_R → Option γ) : Option γ := cond (decide (s5 > (0 : Int))) (none) (cond (decide (s6 > (9223372036854775807 : Int))) (none) (k ()))
noncomputable def bytes_Repeat_M2 (s5 : Int) (s6 : Int) : Option bytes_Repeat_M2_R := bytes_Repeat_M2_t s5 s6 some
theorem bytes_Repeat_M2_t_eq {γ : Type} (s5 : Int) (s6 : Int) (k : bytes_Repeat_M2_R → Option γ) : bytes_Repeat_M2_t s5 s6 k = outOf (bytes_Repeat_M2 s5 s6) k := by
  delta bytes_Repeat_M2 bytes_Repeat_M2_t; exact (Tr.nd Tr.no (Tr.nd Tr.no Tr.lf))
theorem bytes_Repeat_M2_ev (α : Type) (d : bytes_Repeat_M2_D) (k : Exit → St → Option α) : ev Tryd.prog NrIE1 bytes_Repeat_M1_h 60 [0, 1, 1, 1, 1] ((codeAt (bodyOf Tryd.f121) [0, 1, 1, 1, 1]).getD .skip) ⟨mkS bytes_Repeat_M2_A (bytes_Repeat_M2_ofA d), mkH bytes_Repeat_M2_H (bytes_Repeat_M2_ofH d)⟩ (exitN 0 bytes_Repeat_M2_X k) = outOf (bytes_Repeat_M2 d.2.1 d.2.2) fun x => k (bytes_Repeat_M2_fin d x).1 (bytes_Repeat_M2_fin d x).2 := by
  obtain ⟨s0, s5, s6⟩ := d
  exact (show _ = bytes_Repeat_M2_t s5 s6 (fun x => k (bytes_Repeat_M2_fin (s0, s5, s6) x).1 (bytes_Repeat_M2_fin (s0, s5, s6) x).2) from by kernel_rfl).trans (bytes_Repeat_M2_t_eq s5 s6 _)
noncomputable def bytes_Repeat_M2_sp : CSpec := fun _ st k => reNorm 0 bytes_Repeat_M2_N bytes_Repeat_M2_A bytes_Repeat_M2_H st fun a m => outOf (bytes_Repeat_M2 (bytes_Repeat_M2_to a m).2.1 (bytes_Repeat_M2_to a m).2.2) fun v => k .normal ⟨[.sl (.int .u8) (bytes_Repeat_M2_to a m).1 false, .any, .any, .any, .any, .any, .lit (.int .u64 (bytes_Repeat_M2_to a m).2.2), .any, .any, .any, .any, .any, .any, .any, .any, .any, .any, .any, .any, .any, .any, .any, .any, .any, .any, .any, .any, .any, .any, .any, .any, .any, .any, .any, .any, .any, .any, .any, .any, .any, .any, .any, .any, .any, .any, .any, .any, .any, .any, .any, .any, .any, .any, .any, .any, .any, .any, .any, .any, .any, .any, .any, .any, .any, .any, .any, .any, .any, .any, .any, .any, .any, .any, .any, .any, .any, .any], []⟩
theorem bytes_Repeat_M2_ok : SumOK Tryd.prog 0 ((codeAt (bodyOf Tryd.f121) [0, 1, 1, 1, 1]).getD .skip) bytes_Repeat_M2_sp := (SumOK.once NrIE1_ok mixed bytes_Repeat_M1_h_ok (show codeAt (bodyOf Tryd.f121) [0, 1, 1, 1, 1] = some ((codeAt (bodyOf Tryd.f121) [0, 1, 1, 1, 1]).getD .skip) from by kernel_rfl) (N := bytes_Repeat_M2_N) (Nx := bytes_Repeat_M2_X) (A := bytes_Repeat_M2_A) (Hs := bytes_Repeat_M2_H) (toD := bytes_Repeat_M2_to) (ofA := bytes_Repeat_M2_ofA) (ofH := bytes_Repeat_M2_ofH) (fun _ _ => rfl) (fun _ _ => rfl) (M := fun d => bytes_Repeat_M2 d.2.1 d.2.2) (fin := bytes_Repeat_M2_fin) 60 bytes_Repeat_M2_ev).mono fun α st k r h => by
  refine Eq.trans (congrArg (reNorm 0 bytes_Repeat_M2_N bytes_Repeat_M2_A bytes_Repeat_M2_H st) ?_) h
  funext a m
  exact outOf_congr fun x => rfl
noncomputable def bytes_Repeat_M2_h : Hints := bytes_Repeat_M1_h.add [0, 1, 1, 1, 1] bytes_Repeat_M2_sp
theorem bytes_Repeat_M2_h_ok : bytes_Repeat_M2_h.OK Tryd.prog (bodyOf Tryd.f121) := bytes_Repeat_M1_h_ok.add (show codeAt (bodyOf Tryd.f121) [0, 1, 1, 1, 1] = some ((codeAt (bodyOf Tryd.f121) [0, 1, 1, 1, 1]).getD .skip) from by kernel_rfl) bytes_Repeat_M2_ok
def bytes_Repeat_M3_A : List SD := [.val (.sl (.int .u8)), .any, .any, .any, .any, .any, .any, .val (.int .i64), .val (.int .i64), .any, .any, .any, .any, .any, .any, .any, .any, .any, .any, .any, .any, .any, .any, .any, .any, .any, .any, .any, .any, .any, .any, .any, .any, .any, .any, .any, .any, .any, .any, .any, .any, .any, .any, .any, .any, .any, .any, .any, .any, .any, .any, .any, .any, .any, .any, .any, .any, .any, .any, .any, .any, .any, .any, .any, .any, .any, .any, .any, .any, .any, .any, .any, .any, .any, .any, .any, .any]
def bytes_Repeat_M3_H : List HD := []
abbrev bytes_Repeat_M3_D : Type := (List Int) × Int × Int
def bytes_Repeat_M3_to (a : DenS bytes_Repeat_M3_A) (m : DenH bytes_Repeat_M3_H) : bytes_Repeat_M3_D := (a.1, a.2.2.2.2.2.2.2.1, a.2.2.2.2.2.2.2.2.1)
def bytes_Repeat_M3_ofA (d : bytes_Repeat_M3_D) : DenS bytes_Repeat_M3_A := match d with | (s0, s7, s8) => (s0, (), (), (), (), (), (), s7, s8, (), (), (), (), (), (), (), (), (), (), (), (), (), (), (), (), (), (), (), (), (), (), (), (), (), (), (), (), (), (), (), (), (), (), (), (), (), (), (), (), (), (), (), (), (), (), (), (), (), (), (), (), (), (), (), (), (), (), (), (), (), (), (), (), (), (), (), (), ())
def bytes_Repeat_M3_ofH (d : bytes_Repeat_M3_D) : DenH bytes_Repeat_M3_H := match d with | (s0, s7, s8) => ()
def bytes_Repeat_M3_N : Norm := (⟨[0, 7, 8], [], []⟩ : Go.TX.Norm)
def bytes_Repeat_M3_X : Exit → Norm := fun e => match e with | .normal => ⟨[0, 7, 8], [], []⟩ | _ => ⟨[], [], []⟩
abbrev bytes_Repeat_M3_R : Type := (Int)
def bytes_Repeat_M3_fin (d : bytes_Repeat_M3_D) (v : bytes_Repeat_M3_R) : Exit × St := (.normal, ⟨[.sl (.int .u8) d.1 false, .any, .any, .any, .any, .any, .any, .lit (.int .i64 d.2.1), .lit (.int .i64 v), .any, .any, .any, .any, .any, .any, .any, .any, .any, .any, .any, .any, .any, .any, .any, .any, .any, .any, .any, .any, .any, .any, .any, .any, .any, .any, .any, .any, .any, .any, .any, .any, .any, .any, .any, .any, .any, .any, .any, .any, .any, .any, .any, .any, .any, .any, .any, .any, .any, .any, .any, .any, .any, .any, .any, .any, .any, .any, .any, .any, .any, .any, .any, .any, .any, .any, .any, .any], []⟩)
noncomputable def bytes_Repeat_M3_t {γ : Type} (s0 : (List Int)) (s8 : Int) (k : bytes_Repeat_M3_R → Option γ) : Option γ := cond (decide (s8 > (8192 : Int))) (cond (decide ((↑(List.length s0) : Int) = (0 : Int))) (none) (cond (IntKind.wrap IntKind.i64 (IntKind.wrap IntKind.i64 (Int.tdiv (8192 : Int) (↑(List.length s0) : Int)) * (↑(List.length s0) : Int)) == (0 : Int)) (k ((↑(List.length s0) : Int))) (k (IntKind.wrap IntKind.i64 (IntKind.wrap IntKind.i64 (Int.tdiv (8192 : Int) (↑(List.length s0) : Int)) * (↑(List.length s0) : Int)))))) (k (s8))
noncomputable def bytes_Repeat_M3 (s0 : (List Int)) (s8 : Int) : Option bytes_Repeat_M3_R := bytes_Repeat_M3_t s0 s8 some
theorem bytes_Repeat_M3_t_eq {γ : Type} (s0 : (List Int)) (s8 : Int) (k : bytes_Repeat_M3_R → Option γ) : bytes_Repeat_M3_t s0 s8 k = outOf (bytes_Repeat_M3 s0 s8) k := by
  delta bytes_Repeat_M3 bytes_Repeat_M3_t; exact (Tr.nd (Tr.nd Tr.no (Tr.nd Tr.lf Tr.lf)) Tr.lf)
theorem bytes_Repeat_M3_ev (α : Type) (d : bytes_Repeat_M3_D) (k : Exit → St → Option α) : ev Tryd.prog NrIE1 bytes_Repeat_M2_h 60 [0, 1, 1, 1, 1, 1, 1, 1, 1] ((codeAt (bodyOf Tryd.f121) [0, 1, 1, 1, 1, 1, 1, 1, 1]).getD .skip) ⟨mkS bytes_Repeat_M3_A (bytes_Repeat_M3_ofA d), mkH bytes_Repeat_M3_H (bytes_Repeat_M3_ofH d)⟩ (exitN 0 bytes_Repeat_M3_X k) = outOf (bytes_Repeat_M3 d.1 d.2.2) fun x => k (bytes_Repeat_M3_fin d x).1 (bytes_Repeat_M3_fin d x).2 := by
  obtain ⟨s0, s7, s8⟩ := d
  exact (show _ = bytes_Repeat_M3_t s0 s8 (fun x => k (bytes_Repeat_M3_fin (s0, s7, s8) x).1 (bytes_Repeat_M3_fin (s0, s7, s8) x).2) from by kernel_rfl).trans (bytes_Repeat_M3_t_eq s0 s8 _)
noncomputable def bytes_Repeat_M3_sp : CSpec := fun _ st k => reNorm 0 bytes_Repeat_M3_N bytes_Repeat_M3_A bytes_Repeat_M3_H st fun a m => outOf (bytes_Repeat_M3 (bytes_Repeat_M3_to a m).1 (bytes_Repeat_M3_to a m).2.2) fun v => k .normal ⟨[.sl (.int .u8) (bytes_Repeat_M3_to a m).1 false, .any, .any, .any, .any, .any, .any, .lit (.int .i64 (bytes_Repeat_M3_to a m).2.1), .lit (.int .i64 v), .any, .any, .any, .any, .any, .any, .any, .any, .any, .any, .any, .any, .any, .any, .any, .any, .any, .any, .any, .any, .any, .any, .any, .any, .any, .any, .any, .any, .any, .any, .any, .any, .any, .any, .any, .any, .any, .any, .any, .any, .any, .any, .any, .any, .any, .any, .any, .any, .any, .any, .any, .any, .any, .any, .any, .any, .any, .any, .any, .any, .any, .any, .any, .any, .any, .any, .any, .any], []⟩
theorem bytes_Repeat_M3_ok : SumOK Tryd.prog 0 ((codeAt (bodyOf Tryd.f121) [0, 1, 1, 1, 1, 1, 1, 1, 1]).getD .skip) bytes_Repeat_M3_sp := (SumOK.once NrIE1_ok mixed bytes_Repeat_M2_h_ok (show codeAt (bodyOf Tryd.f121) [0, 1, 1, 1, 1, 1, 1, 1, 1] = some ((codeAt (bodyOf Tryd.f121) [0, 1, 1, 1, 1, 1, 1, 1, 1]).getD .skip) from by kernel_rfl) (N := bytes_Repeat_M3_N) (Nx := bytes_Repeat_M3_X) (A := bytes_Repeat_M3_A) (Hs := bytes_Repeat_M3_H) (toD := bytes_Repeat_M3_to) (ofA := bytes_Repeat_M3_ofA) (ofH := bytes_Repeat_M3_ofH) (fun _ _ => rfl) (fun _ _ => rfl) (M := fun d => bytes_Repeat_M3 d.1 d.2.2) (fin := bytes_Repeat_M3_fin) 60 bytes_Repeat_M3_ev).mono fun α st k r h => by
  refine Eq.trans (congrArg (reNorm 0 bytes_Repeat_M3_N bytes_Repeat_M3_A bytes_Repeat_M3_H st) ?_) h
  funext a m
  exact outOf_congr fun x => rfl
noncomputable def bytes_Repeat_M3_h : Hints := bytes_Repeat_M2_h.add [0, 1, 1, 1, 1, 1, 1, 1, 1] bytes_Repeat_M3_sp
theorem bytes_Repeat_M3_h_ok : bytes_Repeat_M3_h.OK Tryd.prog (bodyOf Tryd.f121) := bytes_Repeat_M2_h_ok.add (show codeAt (bodyOf Tryd.f121) [0, 1, 1, 1, 1, 1, 1, 1, 1] = some ((codeAt (bodyOf Tryd.f121) [0, 1, 1, 1, 1, 1, 1, 1, 1]).getD .skip) from by kernel_rfl) bytes_Repeat_M3_ok
def bytes_Repeat_L1_A : List SD := [.any, .any, .any, .any, .any, .any, .any, .val (.int .i64), .val (.int .i64), .rowz 0, .val (.int .i64), .any, .any, .any, .any, .any, .any, .any, .any, .any, .any, .any, .any, .any, .any, .any, .any, .any, .any, .any, .any, .any, .any, .any, .any, .any, .any, .any, .any, .any, .any, .any, .any, .any, .any, .any, .any, .any, .any, .any, .any, .any, .any, .any, .any, .any, .any, .any, .any, .any, .any, .any, .any, .any, .any, .any, .any, .any, .any, .any, .any, .any, .any, .any, .any, .any, .any]
def bytes_Repeat_L1_H : List HD := [.raw (.int .u8)]
abbrev bytes_Repeat_L1_D : Type := Int × Int × Nat × Int × (List Int) × Nat
def bytes_Repeat_L1_to (a : DenS bytes_Repeat_L1_A) (m : DenH bytes_Repeat_L1_H) : bytes_Repeat_L1_D := (a.2.2.2.2.2.2.2.1, a.2.2.2.2.2.2.2.2.1, a.2.2.2.2.2.2.2.2.2.1, a.2.2.2.2.2.2.2.2.2.2.1, m.1.1, m.1.2)
def bytes_Repeat_L1_ofA (d : bytes_Repeat_L1_D) : DenS bytes_Repeat_L1_A := match d with | (s7, s8, s9_n, s10, m0_s, m0_p) => ((), (), (), (), (), (), (), s7, s8, s9_n, s10, (), (), (), (), (), (), (), (), (), (), (), (), (), (), (), (), (), (), (), (), (), (), (), (), (), (), (), (), (), (), (), (), (), (), (), (), (), (), (), (), (), (), (), (), (), (), (), (), (), (), (), (), (), (), (), (), (), (), (), (), (), (), (), (), (), (), ())
def bytes_Repeat_L1_ofH (d : bytes_Repeat_L1_D) : DenH bytes_Repeat_L1_H := match d with | (s7, s8, s9_n, s10, m0_s, m0_p) => ((m0_s, m0_p), ())
def bytes_Repeat_L1_N : Norm := (⟨[7, 8, 9, 10], [], []⟩ : Go.TX.Norm)
def bytes_Repeat_L1_X : Exit → Norm := fun e => match e with | .exit 0 => ⟨[9], [], []⟩ | _ => ⟨[], [], []⟩
abbrev bytes_Repeat_L1_R : Type := (Nat × (List Int) × Nat)
def bytes_Repeat_L1_fin (v : bytes_Repeat_L1_R) : Exit × St := ((.exit 0), ⟨[.any, .any, .any, .any, .any, .any, .any, .any, .any, .msl 0 0 v.1, .any, .any, .any, .any, .any, .any, .any, .any, .any, .any, .any, .any, .any, .any, .any, .any, .any, .any, .any, .any, .any, .any, .any, .any, .any, .any, .any, .any, .any, .any, .any, .any, .any, .any, .any, .any, .any, .any, .any, .any, .any, .any, .any, .any, .any, .any, .any, .any, .any, .any, .any, .any, .any, .any, .any, .any, .any, .any, .any, .any, .any, .any, .any, .any, .any, .any, .any], [.raw (.int .u8) v.2.1 v.2.2]⟩)
noncomputable def bytes_Repeat_L1_t {γ : Type} (s7 : Int) (s8 : Int) (s9_n : Nat) (s10 : Int) (m0_s : (List Int)) (m0_p : Nat) (next : bytes_Repeat_L1_D → Option γ) (out : bytes_Repeat_L1_R → Option γ) : Option γ := cond (decide (s10 < s7)) (cond (decide ((0 : Int) ≤ s10 ∧ s10 ≤ (↑s9_n : Int) ∧ (↑s9_n : Int) ≤ (↑s9_n : Int))) (cond (decide ((0 : Int) ≤ (0 : Int) ∧ ((0 : Int) ≤ if s8 < s10 then s8 else s10) ∧ (if s8 < s10 then s8 else s10) ≤ (↑s9_n : Int))) (cond (decide ((0 : Nat) + (Int.toNat (if s8 < s10 then s8 else s10) - (0 : Nat)) ≤ List.length m0_s)) (cond (decide ((0 : Nat) + Int.toNat s10 ≤ List.length m0_s)) (next (s7, s8, s9_n, IntKind.wrap IntKind.i64 (s10 + (↑(min (List.length (List.take (Int.toNat (if s8 < s10 then s8 else s10) - (0 : Nat)) (List.drop (0 : Nat) m0_s))) (Int.toNat (↑s9_n : Int) - Int.toNat s10)) : Int)), List.take ((0 : Nat) + Int.toNat s10) m0_s ++ List.take (Int.toNat (↑s9_n : Int) - Int.toNat s10) (List.take (Int.toNat (if s8 < s10 then s8 else s10) - (0 : Nat)) (List.drop (0 : Nat) m0_s)) ++ List.drop ((0 : Nat) + Int.toNat s10 + min (List.length (List.take (Int.toNat (if s8 < s10 then s8 else s10) - (0 : Nat)) (List.drop (0 : Nat) m0_s))) (Int.toNat (↑s9_n : Int) - Int.toNat s10)) m0_s, m0_p)) (none)) (none)) (none)) (none)) (out (s9_n, m0_s, m0_p))
noncomputable def bytes_Repeat_L1_pass (d : bytes_Repeat_L1_D) : Option (bytes_Repeat_L1_D ⊕ bytes_Repeat_L1_R) := bytes_Repeat_L1_t d.1 d.2.1 d.2.2.1 d.2.2.2.1 d.2.2.2.2.1 d.2.2.2.2.2 (fun d => some (.inl d)) (fun x => some (.inr x))
theorem bytes_Repeat_L1_t_eq {γ : Type} (s7 : Int) (s8 : Int) (s9_n : Nat) (s10 : Int) (m0_s : (List Int)) (m0_p : Nat) (next : bytes_Repeat_L1_D → Option γ) (out : bytes_Repeat_L1_R → Option γ) : bytes_Repeat_L1_t s7 s8 s9_n s10 m0_s m0_p next out = PassOf (bytes_Repeat_L1_t s7 s8 s9_n s10 m0_s m0_p (fun d => some (.inl d)) (fun x => some (.inr x))) next out := by
  delta bytes_Repeat_L1_t; exact (Ps.nd (Ps.nd (Ps.nd (Ps.nd (Ps.nd Ps.nx Ps.no) Ps.no) Ps.no) Ps.no) Ps.ou)
theorem bytes_Repeat_L1_ev (α : Type) (d : bytes_Repeat_L1_D) (next : bytes_Repeat_L1_D → Option α) (k : Exit → St → Option α) : ev Tryd.prog NrIE1 bytes_Repeat_M3_h 60 [0, 0, 0, 1, 1, 1, 1, 1, 1, 1, 1, 1, 1, 1] ((codeAt (bodyOf Tryd.f121) [0, 0, 0, 1, 1, 1, 1, 1, 1, 1, 1, 1, 1, 1]).getD .skip) ⟨mkS bytes_Repeat_L1_A (bytes_Repeat_L1_ofA d), mkH bytes_Repeat_L1_H (bytes_Repeat_L1_ofH d)⟩ (passK 0 bytes_Repeat_L1_N bytes_Repeat_L1_A bytes_Repeat_L1_H bytes_Repeat_L1_X (fun a m => next (bytes_Repeat_L1_to a m)) k) = PassOf (bytes_Repeat_L1_pass d) next fun x => k (bytes_Repeat_L1_fin x).1 (bytes_Repeat_L1_fin x).2 := by
  obtain ⟨s7, s8, s9_n, s10, m0_s, m0_p⟩ := d
  exact (show _ = bytes_Repeat_L1_t s7 s8 s9_n s10 m0_s m0_p next (fun x => k (bytes_Repeat_L1_fin x).1 (bytes_Repeat_L1_fin x).2) from by kernel_rfl).trans (bytes_Repeat_L1_t_eq s7 s8 s9_n s10 m0_s m0_p _ _)
noncomputable def bytes_Repeat_L1 (d : bytes_Repeat_L1_D) : Option bytes_Repeat_L1_R := runs bytes_Repeat_L1_pass d
noncomputable def bytes_Repeat_L1_sp : CSpec := fun _ st k => reNorm 0 bytes_Repeat_L1_N bytes_Repeat_L1_A bytes_Repeat_L1_H st fun a m => outOf (bytes_Repeat_L1 (bytes_Repeat_L1_to a m)) fun v => k (.exit 0) ⟨[.any, .any, .any, .any, .any, .any, .any, .any, .any, .msl 0 0 v.1, .any, .any, .any, .any, .any, .any, .any, .any, .any, .any, .any, .any, .any, .any, .any, .any, .any, .any, .any, .any, .any, .any, .any, .any, .any, .any, .any, .any, .any, .any, .any, .any, .any, .any, .any, .any, .any, .any, .any, .any, .any, .any, .any, .any, .any, .any, .any, .any, .any, .any, .any, .any, .any, .any, .any, .any, .any, .any, .any, .any, .any, .any, .any, .any, .any, .any, .any], [.raw (.int .u8) v.2.1 v.2.2]⟩
theorem bytes_Repeat_L1_ok : SumOK Tryd.prog 0 (.loop ((codeAt (bodyOf Tryd.f121) [0, 0, 0, 1, 1, 1, 1, 1, 1, 1, 1, 1, 1, 1]).getD .skip)) bytes_Repeat_L1_sp := (SumOK.loop NrIE1_ok mixed bytes_Repeat_M3_h_ok (show codeAt (bodyOf Tryd.f121) [0, 0, 1, 1, 1, 1, 1, 1, 1, 1, 1, 1, 1] = some (.loop ((codeAt (bodyOf Tryd.f121) [0, 0, 0, 1, 1, 1, 1, 1, 1, 1, 1, 1, 1, 1]).getD .skip)) from by kernel_rfl) (N := bytes_Repeat_L1_N) (Nx := bytes_Repeat_L1_X) (A := bytes_Repeat_L1_A) (Hs := bytes_Repeat_L1_H) (toD := bytes_Repeat_L1_to) (ofA := bytes_Repeat_L1_ofA) (ofH := bytes_Repeat_L1_ofH) (fun _ _ => rfl) (fun _ _ => rfl) (pass := bytes_Repeat_L1_pass) (fin := bytes_Repeat_L1_fin) 60 bytes_Repeat_L1_ev (steps bytes_Repeat_L1_pass)).mono fun α st k r h => by
  refine Eq.trans (congrArg (reNorm 0 bytes_Repeat_L1_N bytes_Repeat_L1_A bytes_Repeat_L1_H st) ?_) h
  funext a m
  exact outOf_congr fun x => rfl
noncomputable def bytes_Repeat_L1_h : Hints := bytes_Repeat_M3_h.add [0, 0, 1, 1, 1, 1, 1, 1, 1, 1, 1, 1, 1] bytes_Repeat_L1_sp
theorem bytes_Repeat_L1_h_ok : bytes_Repeat_L1_h.OK Tryd.prog (bodyOf Tryd.f121) := bytes_Repeat_M3_h_ok.add (show codeAt (bodyOf Tryd.f121) [0, 0, 1, 1, 1, 1, 1, 1, 1, 1, 1, 1, 1] = some (.loop ((codeAt (bodyOf Tryd.f121) [0, 0, 0, 1, 1, 1, 1, 1, 1, 1, 1, 1, 1, 1]).getD .skip)) from by kernel_rfl) bytes_Repeat_L1_ok
abbrev bytes_Repeat_R : Type := ((List Int))
noncomputable def bytes_Repeat_t {γ : Type} (a0 : (List Int)) (a1 : Int) (k : bytes_Repeat_R → Option γ) : Option γ := cond (a1 == (0 : Int)) (k ([])) (outOf (bytes_Repeat_M1 a1) fun (x17 : PUnit) => outOf (bytes_Repeat_M2 (Prod.fst (bits_Mul (IntKind.wrap IntKind.u64 (↑(List.length a0) : Int)) (IntKind.wrap IntKind.u64 a1))) (Prod.snd (bits_Mul (IntKind.wrap IntKind.u64 (↑(List.length a0) : Int)) (IntKind.wrap IntKind.u64 a1)))) fun (x18 : PUnit) => cond ((↑(List.length a0) : Int) == (0 : Int)) (k ([])) (outOf (bytes_Repeat_M3 a0 (IntKind.wrap IntKind.i64 (Prod.snd (bits_Mul (IntKind.wrap IntKind.u64 (↑(List.length a0) : Int)) (IntKind.wrap IntKind.u64 a1))))) fun (x19 : Int) => cond (decide ((1 : Int) ≤ IntKind.wrap IntKind.i64 (Prod.snd (bits_Mul (IntKind.wrap IntKind.u64 (↑(List.length a0) : Int)) (IntKind.wrap IntKind.u64 a1))) ∧ IntKind.wrap IntKind.i64 (Prod.snd (bits_Mul (IntKind.wrap IntKind.u64 (↑(List.length a0) : Int)) (IntKind.wrap IntKind.u64 a1))) ≤ (2147483648 : Int))) (cond (decide ((0 : Int) ≤ (0 : Int) ∧ (0 : Int) ≤ IntKind.wrap IntKind.i64 (Prod.snd (bits_Mul (IntKind.wrap IntKind.u64 (↑(List.length a0) : Int)) (IntKind.wrap IntKind.u64 a1))) ∧ IntKind.wrap IntKind.i64 (Prod.snd (bits_Mul (IntKind.wrap IntKind.u64 (↑(List.length a0) : Int)) (IntKind.wrap IntKind.u64 a1))) ≤ IntKind.wrap IntKind.i64 (Prod.snd (bits_Mul (IntKind.wrap IntKind.u64 (↑(List.length a0) : Int)) (IntKind.wrap IntKind.u64 a1))) ∧ IntKind.wrap IntKind.i64 (Prod.snd (bits_Mul (IntKind.wrap IntKind.u64 (↑(List.length a0) : Int)) (IntKind.wrap IntKind.u64 a1))) ≤ (↑(Int.toNat (IntKind.wrap IntKind.i64 (Prod.snd (bits_Mul (IntKind.wrap IntKind.u64 (↑(List.length a0) : Int)) (IntKind.wrap IntKind.u64 a1))))) : Int))) (outOf (bytes_Repeat_L1 (IntKind.wrap IntKind.i64 (Prod.snd (bits_Mul (IntKind.wrap IntKind.u64 (↑(List.length a0) : Int)) (IntKind.wrap IntKind.u64 a1))), x19, Int.toNat (IntKind.wrap IntKind.i64 (Prod.snd (bits_Mul (IntKind.wrap IntKind.u64 (↑(List.length a0) : Int)) (IntKind.wrap IntKind.u64 a1)))) - (0 : Nat), (↑(min (List.length a0) (Int.toNat (IntKind.wrap IntKind.i64 (Prod.snd (bits_Mul (IntKind.wrap IntKind.u64 (↑(List.length a0) : Int)) (IntKind.wrap IntKind.u64 a1)))) - (0 : Nat))) : Int), List.take (0 : Nat) [] ++ List.take (Int.toNat (IntKind.wrap IntKind.i64 (Prod.snd (bits_Mul (IntKind.wrap IntKind.u64 (↑(List.length a0) : Int)) (IntKind.wrap IntKind.u64 a1)))) - (0 : Nat)) a0 ++ List.drop ((0 : Nat) + min (List.length a0) (Int.toNat (IntKind.wrap IntKind.i64 (Prod.snd (bits_Mul (IntKind.wrap IntKind.u64 (↑(List.length a0) : Int)) (IntKind.wrap IntKind.u64 a1)))) - (0 : Nat))) [], Int.toNat (IntKind.wrap IntKind.i64 (Prod.snd (bits_Mul (IntKind.wrap IntKind.u64 (↑(List.length a0) : Int)) (IntKind.wrap IntKind.u64 a1)))))) fun (x20 : (Nat × ((List Int) × Nat))) => cond (decide (Prod.snd (Prod.snd x20) ≤ List.length (Prod.fst (Prod.snd x20)))) (k (List.take (Prod.fst x20) (List.drop (0 : Nat) (Prod.fst (Prod.snd x20))))) (none)) (none)) (none)))
noncomputable def bytes_Repeat (a0 : (List Int)) (a1 : Int) : Option bytes_Repeat_R := bytes_Repeat_t a0 a1 some
theorem bytes_Repeat_t_eq {γ : Type} (a0 : (List Int)) (a1 : Int) (k : bytes_Repeat_R → Option γ) : bytes_Repeat_t a0 a1 k = outOf (bytes_Repeat a0 a1) k := by
  delta bytes_Repeat bytes_Repeat_t; exact (Tr.nd Tr.lf (Tr.bd fun x17 => (Tr.bd fun x18 => (Tr.nd Tr.lf (Tr.bd fun x19 => (Tr.nd (Tr.nd (Tr.bd fun x20 => (Tr.nd Tr.lf Tr.no)) Tr.no) Tr.no))))))
noncomputable def bytes_Repeat_sp : TX.Spec := specD [.val (.sl (.int .u8)), .val (.int .i64)] [] fun _ a m k => match a, m with | ⟨a0, a1, _⟩, _ => outOf (bytes_Repeat a0 a1) fun v => k (.sl (.int .u8) v false) []
theorem bytes_Repeat_ev {α : Type} (a0 : (List Int)) (a1 : Int) (k : Kont α) : evFun Tryd.prog NrIE1 (bytes_Repeat_L1_h) false Tryd.f121 (bodyOf Tryd.f121) 60 (mkS [.val (.sl (.int .u8)), .val (.int .i64)] (a0, a1, ())) (mkH [] ()) (fun v H => k (weakF v) H) = outOf (bytes_Repeat a0 a1) fun v => k (.sl (.int .u8) v false) [] :=
  (show _ = bytes_Repeat_t a0 a1 (fun v => k (.sl (.int .u8) v false) []) from by kernel_rfl).trans (bytes_Repeat_t_eq a0 a1 _)
theorem bytes_Repeat_good : TX.Good Tryd.prog 121 bytes_Repeat_sp := good_form_weak NrIE1_ok mixed Tryd.func121 (body_of rfl) (by kernel_rfl) false bytes_Repeat_L1_h 60 bytes_Repeat_L1_h_ok rfl fun α a m k r h => by
  obtain ⟨a0, a1, _⟩ := a; obtain _ := m
  exact (bytes_Repeat_ev a0 a1 k).trans h
def mem_with_h0 : Hints := Hints.nil 0
theorem mem_with_h0_ok : mem_with_h0.OK Tryd.prog (bodyOf Tryd.f96) := Hints.nil_ok
abbrev mem_with_R : Type := ((List Int))
noncomputable def mem_with_t {γ : Type} (a0 : (List Int)) (a1 : Int) (a2 : (List Int)) (k : mem_with_R → Option γ) : Option γ := outOf (bytes_Clone a0) fun (x1 : (Nat × (List Int))) => cond (decide ((0 : Int) ≤ a1 ∧ a1 ≤ (↑(Prod.fst x1) : Int) ∧ (↑(Prod.fst x1) : Int) ≤ (↑(Prod.fst x1) : Int))) (k (List.take (Prod.fst x1) (List.drop (0 : Nat) (List.take ((0 : Nat) + Int.toNat a1) (Prod.snd x1) ++ List.take (Int.toNat (↑(Prod.fst x1) : Int) - Int.toNat a1) a2 ++ List.drop ((0 : Nat) + Int.toNat a1 + min (List.length a2) (Int.toNat (↑(Prod.fst x1) : Int) - Int.toNat a1)) (Prod.snd x1))))) (none)
noncomputable def mem_with (a0 : (List Int)) (a1 : Int) (a2 : (List Int)) : Option mem_with_R := mem_with_t a0 a1 a2 some
theorem mem_with_t_eq {γ : Type} (a0 : (List Int)) (a1 : Int) (a2 : (List Int)) (k : mem_with_R → Option γ) : mem_with_t a0 a1 a2 k = outOf (mem_with a0 a1 a2) k := by
  delta mem_with mem_with_t; exact (Tr.bd fun x1 => (Tr.nd Tr.lf Tr.no))
noncomputable def mem_with_sp : TX.Spec := specD [.val (.sl (.int .u8)), .val (.int .i64), .val (.sl (.int .u8))] [] fun _ a m k => match a, m with | ⟨a0, a1, a2, _⟩, _ => outOf (mem_with a0 a1 a2) fun v => k (.sl (.int .u8) v false) []
theorem mem_with_ev {α : Type} (a0 : (List Int)) (a1 : Int) (a2 : (List Int)) (k : Kont α) : evFun Tryd.prog NrIE1 (mem_with_h0) false Tryd.f96 (bodyOf Tryd.f96) 60 (mkS [.val (.sl (.int .u8)), .val (.int .i64), .val (.sl (.int .u8))] (a0, a1, a2, ())) (mkH [] ()) k = outOf (mem_with a0 a1 a2) fun v => k (.sl (.int .u8) v false) [] :=
  (show _ = mem_with_t a0 a1 a2 (fun v => k (.sl (.int .u8) v false) []) from by kernel_rfl).trans (mem_with_t_eq a0 a1 a2 _)
theorem mem_with_good : TX.Good Tryd.prog 96 mem_with_sp := good_form NrIE1_ok mixed Tryd.func96 (body_of rfl) (by kernel_rfl) false fun α a m k r h => by
  obtain ⟨a0, a1, a2, _⟩ := a; obtain _ := m
  exact ⟨mem_with_h0, 60, mem_with_h0_ok, rfl, (mem_with_ev a0 a1 a2 k).trans h⟩
def mem_Text_h0 : Hints := Hints.nil 0
theorem mem_Text_h0_ok : mem_Text_h0.OK Tryd.prog (bodyOf Tryd.f33) := Hints.nil_ok
abbrev mem_Text_R : Type := (ByteArray × Int)
noncomputable def mem_Text_t {γ : Type} (a0 : (List Int)) (a1 : Int) (a2 : Int) (k : mem_Text_R → Option γ) : Option γ := outOf (mem_span a0 a1 a2) fun (x1 : ((List Int) × Bool)) => cond (!Prod.snd x1) (k (bytesOf [], (-9 : Int))) (k (strOf (Prod.fst x1), (0 : Int)))
noncomputable def mem_Text (a0 : (List Int)) (a1 : Int) (a2 : Int) : Option mem_Text_R := mem_Text_t a0 a1 a2 some
theorem mem_Text_t_eq {γ : Type} (a0 : (List Int)) (a1 : Int) (a2 : Int) (k : mem_Text_R → Option γ) : mem_Text_t a0 a1 a2 k = outOf (mem_Text a0 a1 a2) k := by
  delta mem_Text mem_Text_t; exact (Tr.bd fun x1 => (Tr.nd Tr.lf Tr.lf))
noncomputable def mem_Text_sp : TX.Spec := specD [.val (.sl (.int .u8)), .val (.int .i64), .val (.int .i64)] [] fun _ a m k => match a, m with | ⟨a0, a1, a2, _⟩, _ => outOf (mem_Text a0 a1 a2) fun v => k (.tup [.lit (.string v.1), .lit (.int .i64 v.2)]) []
theorem mem_Text_ev {α : Type} (a0 : (List Int)) (a1 : Int) (a2 : Int) (k : Kont α) : evFun Tryd.prog NrIE1 (mem_Text_h0) false Tryd.f33 (bodyOf Tryd.f33) 60 (mkS [.val (.sl (.int .u8)), .val (.int .i64), .val (.int .i64)] (a0, a1, a2, ())) (mkH [] ()) k = outOf (mem_Text a0 a1 a2) fun v => k (.tup [.lit (.string v.1), .lit (.int .i64 v.2)]) [] :=
  (show _ = mem_Text_t a0 a1 a2 (fun v => k (.tup [.lit (.string v.1), .lit (.int .i64 v.2)]) []) from by kernel_rfl).trans (mem_Text_t_eq a0 a1 a2 _)
theorem mem_Text_good : TX.Good Tryd.prog 33 mem_Text_sp := good_form NrIE1_ok mixed Tryd.func33 (body_of rfl) (by kernel_rfl) false fun α a m k r h => by
  obtain ⟨a0, a1, a2, _⟩ := a; obtain _ := m
  exact ⟨mem_Text_h0, 60, mem_Text_h0_ok, rfl, (mem_Text_ev a0 a1 a2 k).trans h⟩
noncomputable def NrIE2 : Env := NrIE1.add 95 true mem_slot_sp |>.add 121 true bytes_Repeat_sp |>.add 96 true mem_with_sp |>.add 33 true mem_Text_sp
theorem NrIE2_ok : NrIE2.OK Tryd.prog := ((((NrIE1_ok).add_ok mem_slot_good).add_ok bytes_Repeat_good).add_ok mem_with_good).add_ok mem_Text_good
def mem_Get_h0 : Hints := Hints.nil 0
theorem mem_Get_h0_ok : mem_Get_h0.OK Tryd.prog (bodyOf Tryd.f76) := Hints.nil_ok
def mem_Get_L1_A : List SD := [.any, .any, .any, .any, .any, .any, .any, .val (.int .i64), .val (.int .i64), .any, .any, .any, .any, .any, .any, .any, .any, .val (.sl (.int .u8)), .val (.int .i64), .val (.int .i64), .any, .any, .any, .any, .any, .any, .any, .any, .any, .any, .any, .any, .any, .any, .any]
def mem_Get_L1_H : List HD := []
abbrev mem_Get_L1_D : Type := Int × Int × (List Int) × Int × Int
def mem_Get_L1_to (a : DenS mem_Get_L1_A) (m : DenH mem_Get_L1_H) : mem_Get_L1_D := (a.2.2.2.2.2.2.2.1, a.2.2.2.2.2.2.2.2.1, a.2.2.2.2.2.2.2.2.2.2.2.2.2.2.2.2.2.1, a.2.2.2.2.2.2.2.2.2.2.2.2.2.2.2.2.2.2.1, a.2.2.2.2.2.2.2.2.2.2.2.2.2.2.2.2.2.2.2.1)
def mem_Get_L1_ofA (d : mem_Get_L1_D) : DenS mem_Get_L1_A := match d with | (s7, s8, s17, s18, s19) => ((), (), (), (), (), (), (), s7, s8, (), (), (), (), (), (), (), (), s17, s18, s19, (), (), (), (), (), (), (), (), (), (), (), (), (), (), (), ())
def mem_Get_L1_ofH (d : mem_Get_L1_D) : DenH mem_Get_L1_H := match d with | (s7, s8, s17, s18, s19) => ()
def mem_Get_L1_N : Norm := (⟨[7, 8, 17, 18, 19], [], []⟩ : Go.TX.Norm)
def mem_Get_L1_X : Exit → Norm := fun e => match e with | .exit 0 => ⟨[7, 8], [], []⟩ | _ => ⟨[], [], []⟩
abbrev mem_Get_L1_R : Type := (Int × Int)
def mem_Get_L1_fin (v : mem_Get_L1_R) : Exit × St := ((.exit 0), ⟨[.any, .any, .any, .any, .any, .any, .any, .lit (.int .i64 v.1), .lit (.int .i64 v.2), .any, .any, .any, .any, .any, .any, .any, .any, .any, .any, .any, .any, .any, .any, .any, .any, .any, .any, .any, .any, .any, .any, .any, .any, .any, .any], []⟩)
noncomputable def mem_Get_L1_t {γ : Type} (s7 : Int) (s8 : Int) (s17 : (List Int)) (s18 : Int) (s19 : Int) (next : mem_Get_L1_D → Option γ) (out : mem_Get_L1_R → Option γ) : Option γ := cond (decide (s19 < s18)) (cond (decide ((0 : Int) ≤ s19 ∧ s19 < (↑(List.length s17) : Int))) (cond (decide (IntKind.wrap IntKind.u64 (IntKind.wrap IntKind.i64 (s19 * (8 : Int))) < (0 : Int))) (none) (next (s7, ibits BinOp.or IntKind.i64 s8 (IntKind.wrap IntKind.i64 (IntKind.wrap IntKind.i64 (List.getD s17 (Int.toNat s19) (0 : Int)) * (2 : Int) ^ min (Int.toNat (IntKind.wrap IntKind.u64 (IntKind.wrap IntKind.i64 (s19 * (8 : Int))))) (64 : Nat))), s17, s18, IntKind.wrap IntKind.i64 (s19 + (1 : Int))))) (none)) (out (s7, s8))
noncomputable def mem_Get_L1_pass (d : mem_Get_L1_D) : Option (mem_Get_L1_D ⊕ mem_Get_L1_R) := mem_Get_L1_t d.1 d.2.1 d.2.2.1 d.2.2.2.1 d.2.2.2.2 (fun d => some (.inl d)) (fun x => some (.inr x))
theorem mem_Get_L1_t_eq {γ : Type} (s7 : Int) (s8 : Int) (s17 : (List Int)) (s18 : Int) (s19 : Int) (next : mem_Get_L1_D → Option γ) (out : mem_Get_L1_R → Option γ) : mem_Get_L1_t s7 s8 s17 s18 s19 next out = PassOf (mem_Get_L1_t s7 s8 s17 s18 s19 (fun d => some (.inl d)) (fun x => some (.inr x))) next out := by
  delta mem_Get_L1_t; exact (Ps.nd (Ps.nd (Ps.nd Ps.no Ps.nx) Ps.no) Ps.ou)
theorem mem_Get_L1_ev (α : Type) (d : mem_Get_L1_D) (next : mem_Get_L1_D → Option α) (k : Exit → St → Option α) : ev Tryd.prog NrIE2 mem_Get_h0 60 [0, 0, 1, 0, 1, 1, 1] ((codeAt (bodyOf Tryd.f76) [0, 0, 1, 0, 1, 1, 1]).getD .skip) ⟨mkS mem_Get_L1_A (mem_Get_L1_ofA d), mkH mem_Get_L1_H (mem_Get_L1_ofH d)⟩ (passK 0 mem_Get_L1_N mem_Get_L1_A mem_Get_L1_H mem_Get_L1_X (fun a m => next (mem_Get_L1_to a m)) k) = PassOf (mem_Get_L1_pass d) next fun x => k (mem_Get_L1_fin x).1 (mem_Get_L1_fin x).2 := by
  obtain ⟨s7, s8, s17, s18, s19⟩ := d
  exact (show _ = mem_Get_L1_t s7 s8 s17 s18 s19 next (fun x => k (mem_Get_L1_fin x).1 (mem_Get_L1_fin x).2) from by kernel_rfl).trans (mem_Get_L1_t_eq s7 s8 s17 s18 s19 _ _)
noncomputable def mem_Get_L1 (d : mem_Get_L1_D) : Option mem_Get_L1_R := runs mem_Get_L1_pass d
noncomputable def mem_Get_L1_sp : CSpec := fun _ st k => reNorm 0 mem_Get_L1_N mem_Get_L1_A mem_Get_L1_H st fun a m => outOf (mem_Get_L1 (mem_Get_L1_to a m)) fun v => k (.exit 0) ⟨[.any, .any, .any, .any, .any, .any, .any, .lit (.int .i64 v.1), .lit (.int .i64 v.2), .any, .any, .any, .any, .any, .any, .any, .any, .any, .any, .any, .any, .any, .any, .any, .any, .any, .any, .any, .any, .any, .any, .any, .any, .any, .any], []⟩
theorem mem_Get_L1_ok : SumOK Tryd.prog 0 (.loop ((codeAt (bodyOf Tryd.f76) [0, 0, 1, 0, 1, 1, 1]).getD .skip)) mem_Get_L1_sp := (SumOK.loop NrIE2_ok mixed mem_Get_h0_ok (show codeAt (bodyOf Tryd.f76) [0, 1, 0, 1, 1, 1] = some (.loop ((codeAt (bodyOf Tryd.f76) [0, 0, 1, 0, 1, 1, 1]).getD .skip)) from by kernel_rfl) (N := mem_Get_L1_N) (Nx := mem_Get_L1_X) (A := mem_Get_L1_A) (Hs := mem_Get_L1_H) (toD := mem_Get_L1_to) (ofA := mem_Get_L1_ofA) (ofH := mem_Get_L1_ofH) (fun _ _ => rfl) (fun _ _ => rfl) (pass := mem_Get_L1_pass) (fin := mem_Get_L1_fin) 60 mem_Get_L1_ev (steps mem_Get_L1_pass)).mono fun α st k r h => by
  refine Eq.trans (congrArg (reNorm 0 mem_Get_L1_N mem_Get_L1_A mem_Get_L1_H st) ?_) h
  funext a m
  exact outOf_congr fun x => rfl
noncomputable def mem_Get_L1_h : Hints := mem_Get_h0.add [0, 1, 0, 1, 1, 1] mem_Get_L1_sp
theorem mem_Get_L1_h_ok : mem_Get_L1_h.OK Tryd.prog (bodyOf Tryd.f76) := mem_Get_h0_ok.add (show codeAt (bodyOf Tryd.f76) [0, 1, 0, 1, 1, 1] = some (.loop ((codeAt (bodyOf Tryd.f76) [0, 0, 1, 0, 1, 1, 1]).getD .skip)) from by kernel_rfl) mem_Get_L1_ok
abbrev mem_Get_R : Type := (Int × Int)
noncomputable def mem_Get_t {γ : Type} (a0 : (List Int)) (a1 : Int) (k : mem_Get_R → Option γ) : Option γ := outOf (mem_slot a0 a1) fun (x3 : ((List Int) × Int)) => outOf (mem_Get_L1 (Prod.snd x3, (0 : Int), Prod.fst x3, (↑(List.length (Prod.fst x3)) : Int), (0 : Int))) fun (x4 : (Int × Int)) => k (Prod.snd x4, Prod.fst x4)
noncomputable def mem_Get (a0 : (List Int)) (a1 : Int) : Option mem_Get_R := mem_Get_t a0 a1 some
theorem mem_Get_t_eq {γ : Type} (a0 : (List Int)) (a1 : Int) (k : mem_Get_R → Option γ) : mem_Get_t a0 a1 k = outOf (mem_Get a0 a1) k := by
  delta mem_Get mem_Get_t; exact (Tr.bd fun x3 => (Tr.bd fun x4 => Tr.lf))
noncomputable def mem_Get_sp : TX.Spec := specD [.val (.sl (.int .u8)), .val (.int .i64)] [] fun _ a m k => match a, m with | ⟨a0, a1, _⟩, _ => outOf (mem_Get a0 a1) fun v => k (.tup [.lit (.int .i64 v.1), .lit (.int .i64 v.2)]) []
theorem mem_Get_ev {α : Type} (a0 : (List Int)) (a1 : Int) (k : Kont α) : evFun Tryd.prog NrIE2 (mem_Get_L1_h) false Tryd.f76 (bodyOf Tryd.f76) 60 (mkS [.val (.sl (.int .u8)), .val (.int .i64)] (a0, a1, ())) (mkH [] ()) k = outOf (mem_Get a0 a1) fun v => k (.tup [.lit (.int .i64 v.1), .lit (.int .i64 v.2)]) [] :=
  (show _ = mem_Get_t a0 a1 (fun v => k (.tup [.lit (.int .i64 v.1), .lit (.int .i64 v.2)]) []) from by kernel_rfl).trans (mem_Get_t_eq a0 a1 _)
theorem mem_Get_good : TX.Good Tryd.prog 76 mem_Get_sp := good_form NrIE2_ok mixed Tryd.func76 (body_of rfl) (by kernel_rfl) false fun α a m k r h => by
  obtain ⟨a0, a1, _⟩ := a; obtain _ := m
  exact ⟨mem_Get_L1_h, 60, mem_Get_L1_h_ok, rfl, (mem_Get_ev a0 a1 k).trans h⟩
def mem_Put_h0 : Hints := Hints.nil 0
theorem mem_Put_h0_ok : mem_Put_h0.OK Tryd.prog (bodyOf Tryd.f62) := Hints.nil_ok
abbrev mem_Put_R : Type := ((List Int) × Int)
noncomputable def mem_Put_t {γ : Type} (a0 : (List Int)) (a1 : Int) (a2 : Int) (k : mem_Put_R → Option γ) : Option γ := outOf (mem_slot a0 a1) fun (x1 : ((List Int) × Int)) => cond (Prod.snd x1 != (0 : Int)) (k (a0, Prod.snd x1)) (outOf (mem_word a2) fun (x2 : (List Int)) => outOf (mem_with a0 a1 x2) fun (x3 : (List Int)) => k (x3, (0 : Int)))
noncomputable def mem_Put (a0 : (List Int)) (a1 : Int) (a2 : Int) : Option mem_Put_R := mem_Put_t a0 a1 a2 some
theorem mem_Put_t_eq {γ : Type} (a0 : (List Int)) (a1 : Int) (a2 : Int) (k : mem_Put_R → Option γ) : mem_Put_t a0 a1 a2 k = outOf (mem_Put a0 a1 a2) k := by
  delta mem_Put mem_Put_t; exact (Tr.bd fun x1 => (Tr.nd Tr.lf (Tr.bd fun x2 => (Tr.bd fun x3 => Tr.lf))))
noncomputable def mem_Put_sp : TX.Spec := specD [.val (.sl (.int .u8)), .val (.int .i64), .val (.int .i64)] [] fun _ a m k => match a, m with | ⟨a0, a1, a2, _⟩, _ => outOf (mem_Put a0 a1 a2) fun v => k (.tup [.sl (.int .u8) v.1 false, .lit (.int .i64 v.2)]) []
theorem mem_Put_ev {α : Type} (a0 : (List Int)) (a1 : Int) (a2 : Int) (k : Kont α) : evFun Tryd.prog NrIE2 (mem_Put_h0) false Tryd.f62 (bodyOf Tryd.f62) 60 (mkS [.val (.sl (.int .u8)), .val (.int .i64), .val (.int .i64)] (a0, a1, a2, ())) (mkH [] ()) k = outOf (mem_Put a0 a1 a2) fun v => k (.tup [.sl (.int .u8) v.1 false, .lit (.int .i64 v.2)]) [] :=
  (show _ = mem_Put_t a0 a1 a2 (fun v => k (.tup [.sl (.int .u8) v.1 false, .lit (.int .i64 v.2)]) []) from by kernel_rfl).trans (mem_Put_t_eq a0 a1 a2 _)
theorem mem_Put_good : TX.Good Tryd.prog 62 mem_Put_sp := good_form NrIE2_ok mixed Tryd.func62 (body_of rfl) (by kernel_rfl) false fun α a m k r h => by
  obtain ⟨a0, a1, a2, _⟩ := a; obtain _ := m
  exact ⟨mem_Put_h0, 60, mem_Put_h0_ok, rfl, (mem_Put_ev a0 a1 a2 k).trans h⟩
def mem_Fill_h0 : Hints := Hints.nil 0
theorem mem_Fill_h0_ok : mem_Fill_h0.OK Tryd.prog (bodyOf Tryd.f98) := Hints.nil_ok
abbrev mem_Fill_R : Type := ((List Int) × Int)
noncomputable def mem_Fill_t {γ : Type} (a0 : (List Int)) (a1 : Int) (a2 : Int) (a3 : Int) (k : mem_Fill_R → Option γ) : Option γ := outOf (mem_span a0 a1 a2) fun (x1 : ((List Int) × Bool)) => cond (!Prod.snd x1) (k (a0, (-9 : Int))) (outOf (bytes_Repeat [IntKind.wrap IntKind.u8 a3] a2) fun (x2 : (List Int)) => outOf (mem_with a0 a1 x2) fun (x3 : (List Int)) => k (x3, (0 : Int)))
noncomputable def mem_Fill (a0 : (List Int)) (a1 : Int) (a2 : Int) (a3 : Int) : Option mem_Fill_R := mem_Fill_t a0 a1 a2 a3 some
theorem mem_Fill_t_eq {γ : Type} (a0 : (List Int)) (a1 : Int) (a2 : Int) (a3 : Int) (k : mem_Fill_R → Option γ) : mem_Fill_t a0 a1 a2 a3 k = outOf (mem_Fill a0 a1 a2 a3) k := by
  delta mem_Fill mem_Fill_t; exact (Tr.bd fun x1 => (Tr.nd Tr.lf (Tr.bd fun x2 => (Tr.bd fun x3 => Tr.lf))))
noncomputable def mem_Fill_sp : TX.Spec := specD [.val (.sl (.int .u8)), .val (.int .i64), .val (.int .i64), .val (.int .i64)] [] fun _ a m k => match a, m with | ⟨a0, a1, a2, a3, _⟩, _ => outOf (mem_Fill a0 a1 a2 a3) fun v => k (.tup [.sl (.int .u8) v.1 false, .lit (.int .i64 v.2)]) []
theorem mem_Fill_ev {α : Type} (a0 : (List Int)) (a1 : Int) (a2 : Int) (a3 : Int) (k : Kont α) : evFun Tryd.prog NrIE2 (mem_Fill_h0) false Tryd.f98 (bodyOf Tryd.f98) 60 (mkS [.val (.sl (.int .u8)), .val (.int .i64), .val (.int .i64), .val (.int .i64)] (a0, a1, a2, a3, ())) (mkH [] ()) k = outOf (mem_Fill a0 a1 a2 a3) fun v => k (.tup [.sl (.int .u8) v.1 false, .lit (.int .i64 v.2)]) [] :=
  (show _ = mem_Fill_t a0 a1 a2 a3 (fun v => k (.tup [.sl (.int .u8) v.1 false, .lit (.int .i64 v.2)]) []) from by kernel_rfl).trans (mem_Fill_t_eq a0 a1 a2 a3 _)
theorem mem_Fill_good : TX.Good Tryd.prog 98 mem_Fill_sp := good_form NrIE2_ok mixed Tryd.func98 (body_of rfl) (by kernel_rfl) false fun α a m k r h => by
  obtain ⟨a0, a1, a2, a3, _⟩ := a; obtain _ := m
  exact ⟨mem_Fill_h0, 60, mem_Fill_h0_ok, rfl, (mem_Fill_ev a0 a1 a2 a3 k).trans h⟩
noncomputable def NrIE3 : Env := NrIE2.add 76 true mem_Get_sp |>.add 62 true mem_Put_sp |>.add 98 true mem_Fill_sp
theorem NrIE3_ok : NrIE3.OK Tryd.prog := (((NrIE2_ok).add_ok mem_Get_good).add_ok mem_Put_good).add_ok mem_Fill_good
def mem_PutByte_h0 : Hints := Hints.nil 0
theorem mem_PutByte_h0_ok : mem_PutByte_h0.OK Tryd.prog (bodyOf Tryd.f67) := Hints.nil_ok
abbrev mem_PutByte_R : Type := ((List Int) × Int)
noncomputable def mem_PutByte_t {γ : Type} (a0 : (List Int)) (a1 : Int) (a2 : Int) (k : mem_PutByte_R → Option γ) : Option γ := outOf (mem_Fill a0 a1 (1 : Int) a2) fun (x1 : ((List Int) × Int)) => k (Prod.fst x1, Prod.snd x1)
noncomputable def mem_PutByte (a0 : (List Int)) (a1 : Int) (a2 : Int) : Option mem_PutByte_R := mem_PutByte_t a0 a1 a2 some
theorem mem_PutByte_t_eq {γ : Type} (a0 : (List Int)) (a1 : Int) (a2 : Int) (k : mem_PutByte_R → Option γ) : mem_PutByte_t a0 a1 a2 k = outOf (mem_PutByte a0 a1 a2) k := by
  delta mem_PutByte mem_PutByte_t; exact (Tr.bd fun x1 => Tr.lf)
noncomputable def mem_PutByte_sp : TX.Spec := specD [.val (.sl (.int .u8)), .val (.int .i64), .val (.int .i64)] [] fun _ a m k => match a, m with | ⟨a0, a1, a2, _⟩, _ => outOf (mem_PutByte a0 a1 a2) fun v => k (.tup [.sl (.int .u8) v.1 false, .lit (.int .i64 v.2)]) []
theorem mem_PutByte_ev {α : Type} (a0 : (List Int)) (a1 : Int) (a2 : Int) (k : Kont α) : evFun Tryd.prog NrIE3 (mem_PutByte_h0) false Tryd.f67 (bodyOf Tryd.f67) 60 (mkS [.val (.sl (.int .u8)), .val (.int .i64), .val (.int .i64)] (a0, a1, a2, ())) (mkH [] ()) k = outOf (mem_PutByte a0 a1 a2) fun v => k (.tup [.sl (.int .u8) v.1 false, .lit (.int .i64 v.2)]) [] :=
  (show _ = mem_PutByte_t a0 a1 a2 (fun v => k (.tup [.sl (.int .u8) v.1 false, .lit (.int .i64 v.2)]) []) from by kernel_rfl).trans (mem_PutByte_t_eq a0 a1 a2 _)
theorem mem_PutByte_good : TX.Good Tryd.prog 67 mem_PutByte_sp := good_form NrIE3_ok mixed Tryd.func67 (body_of rfl) (by kernel_rfl) false fun α a m k r h => by
  obtain ⟨a0, a1, a2, _⟩ := a; obtain _ := m
  exact ⟨mem_PutByte_h0, 60, mem_PutByte_h0_ok, rfl, (mem_PutByte_ev a0 a1 a2 k).trans h⟩
noncomputable def NrIE4 : Env := NrIE3.add 67 true mem_PutByte_sp
theorem NrIE4_ok : NrIE4.OK Tryd.prog := (NrIE3_ok).add_ok mem_PutByte_good
noncomputable def NrIE5 : Env := NrIE4
theorem NrIE5_ok : NrIE5.OK Tryd.prog := NrIE4_ok
noncomputable def NrIE6 : Env := NrIE5
theorem NrIE6_ok : NrIE6.OK Tryd.prog := NrIE5_ok
end Go.Proofs.Dbl
