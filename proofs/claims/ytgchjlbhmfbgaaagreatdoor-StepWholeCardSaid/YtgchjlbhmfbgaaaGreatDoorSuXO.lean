import Derived.Test.YtgchjlbhmfbgaaaGreatDoorSuXN
namespace Go.Proofs.Dbl
open Go Go.TX Go.Proofs
set_option maxRecDepth 100000
set_option linter.unusedVariables false
set_option maxHeartbeats 0
noncomputable section
def op_names : (List ByteArray) := ([bytesOf [40, 76, 73, 84, 41], bytesOf [40, 66, 82, 65, 78, 67, 72, 41], bytesOf [40, 48, 66, 82, 65, 78, 67, 72, 41], bytesOf [40, 67, 65, 76, 76, 41], bytesOf [69, 88, 73, 84], bytesOf [40, 68, 79, 41], bytesOf [40, 63, 68, 79, 41], bytesOf [40, 76, 79, 79, 80, 41], bytesOf [40, 43, 76, 79, 79, 80, 41], bytesOf [85, 78, 76, 79, 79, 80], bytesOf [73], bytesOf [74], bytesOf [62, 82], bytesOf [82, 62], bytesOf [82, 64], bytesOf [69, 88, 69, 67, 85, 84, 69], bytesOf [67, 65, 84, 67, 72], bytesOf [84, 72, 82, 79, 87], bytesOf [68, 85, 80], bytesOf [68, 82, 79, 80], bytesOf [83, 87, 65, 80], bytesOf [79, 86, 69, 82], bytesOf [82, 79, 84], bytesOf [78, 73, 80], bytesOf [84, 85, 67, 75], bytesOf [50, 68, 85, 80], bytesOf [50, 68, 82, 79, 80], bytesOf [50, 83, 87, 65, 80], bytesOf [50, 79, 86, 69, 82], bytesOf [63, 68, 85, 80], bytesOf [80, 73, 67, 75], bytesOf [82, 79, 76, 76], bytesOf [68, 69, 80, 84, 72], bytesOf [43], bytesOf [45], bytesOf [42], bytesOf [47], bytesOf [77, 79, 68], bytesOf [47, 77, 79, 68], bytesOf [42, 47], bytesOf [42, 47, 77, 79, 68], bytesOf [49, 43], bytesOf [49, 45], bytesOf [50, 42], bytesOf [50, 47], bytesOf [78, 69, 71, 65, 84, 69], bytesOf [65, 66, 83], bytesOf [77, 73, 78], bytesOf [77, 65, 88], bytesOf [65, 78, 68], bytesOf [79, 82], bytesOf [88, 79, 82], bytesOf [73, 78, 86, 69, 82, 84], bytesOf [76, 83, 72, 73, 70, 84], bytesOf [82, 83, 72, 73, 70, 84], bytesOf [61], bytesOf [60, 62], bytesOf [60], bytesOf [62], bytesOf [85, 60], bytesOf [48, 61], bytesOf [48, 60], bytesOf [87, 73, 84, 72, 73, 78], bytesOf [85, 77, 42], bytesOf [77, 42], bytesOf [85, 77, 47, 77, 79, 68], bytesOf [70, 77, 47, 77, 79, 68], bytesOf [83, 77, 47, 82, 69, 77], bytesOf [83, 62, 68], bytesOf [68, 43], bytesOf [68, 78, 69, 71, 65, 84, 69], bytesOf [67, 69, 76, 76, 83], bytesOf [67, 69, 76, 76, 43], bytesOf [67, 72, 65, 82, 43], bytesOf [65, 76, 73, 71, 78, 69, 68], bytesOf [64], bytesOf [33], bytesOf [67, 64], bytesOf [67, 33], bytesOf [43, 33], bytesOf [70, 73, 76, 76], bytesOf [77, 79, 86, 69], bytesOf [67, 65, 83], bytesOf [69, 77, 73, 84], bytesOf [84, 89, 80, 69], bytesOf [46], bytesOf [85, 46], bytesOf [67, 82], bytesOf [83, 80, 65, 67, 69], bytesOf [60, 35], bytesOf [35], bytesOf [35, 83], bytesOf [72, 79, 76, 68], bytesOf [83, 73, 71, 78], bytesOf [35, 62], bytesOf [66, 65, 83, 69], bytesOf [68, 69, 67, 73, 77, 65, 76], bytesOf [72, 69, 88], bytesOf [77, 69], bytesOf [84, 73, 67, 75, 83], bytesOf [80, 65, 85, 83, 69], bytesOf [83, 76, 69, 69, 80], bytesOf [66, 89, 69], bytesOf [78, 79, 84, 69], bytesOf [67, 82, 69, 65, 84, 69], bytesOf [40, 68, 79, 69, 83, 41], bytesOf [72, 69, 82, 69], bytesOf [65, 76, 76, 79, 84], bytesOf [44], bytesOf [67, 79, 77, 80, 73, 76, 69, 44], bytesOf [73, 77, 77, 69, 68, 73, 65, 84, 69]])
abbrev dict_sized_R : Type := (Bool)
def dict_sized_t {γ : Type} (a0 : ByteArray) (k : dict_sized_R → Option γ) : Option γ := cond (!ByteArray.toList a0 == ByteArray.toList (bytesOf [])) (k (decide ((↑(ByteArray.size a0) : Int) ≤ (31 : Int)))) (k (false))
def dict_sized (a0 : ByteArray) : Option dict_sized_R := dict_sized_t a0 some
abbrev scan_capital_R : Type := (Int)
def scan_capital_t {γ : Type} (a0 : Int) (k : scan_capital_R → Option γ) : Option γ := cond (decide (a0 ≥ (97 : Int))) (cond (decide (a0 ≤ (122 : Int))) (k (IntKind.wrap IntKind.u8 (IntKind.wrap IntKind.u8 (a0 - (97 : Int)) + (65 : Int)))) (k (a0))) (k (a0))
def scan_capital (a0 : Int) : Option scan_capital_R := scan_capital_t a0 some
abbrev hasPre0_R : Type := (Bool)
def hasPre0_t {γ : Type} (a0 : ByteArray) (a1 : ByteArray) (k : hasPre0_R → Option γ) : Option γ := cond (decide ((↑(ByteArray.size a0) : Int) ≥ (↑(ByteArray.size a1) : Int))) (cond (decide ((0 : Int) ≤ (0 : Int) ∧ (0 : Int) ≤ (↑(ByteArray.size a1) : Int) ∧ (↑(ByteArray.size a1) : Int) ≤ (↑(ByteArray.size a0) : Int))) (k (ByteArray.toList (ByteArray.extract a0 (0 : Nat) (Int.toNat (↑(ByteArray.size a1) : Int))) == ByteArray.toList a1)) (none)) (k (false))
def hasPre0 (a0 : ByteArray) (a1 : ByteArray) : Option hasPre0_R := hasPre0_t a0 a1 some
def dict_named1 (a0 : Int) : Bool := (decide (a0 ≤ (32 : Int)))
theorem SrOE1_ok : SrOE1.OK Tryz.prog := (((((SrNE7_ok).add_ok op_names_good).add_ok dict_sized_good).add_ok scan_capital_good).add_ok hasPre0_good).add_ok dict_named1_good
abbrev scan_Upper_L1_D : Type := Nat × Nat × Int × Int × (List Int)
abbrev scan_Upper_L1_R : Type := (Nat × (List Int))
def scan_Upper_L1_t {γ : Type} (s3_n : Nat) (s8_n : Nat) (s9 : Int) (s10 : Int) (m0 : (List Int)) (next : scan_Upper_L1_D → Option γ) (out : scan_Upper_L1_R → Option γ) : Option γ := cond (decide (s10 < s9)) (cond (decide ((0 : Int) ≤ s10 ∧ s10 < (↑s8_n : Int))) (outOf (scan_capital (List.getD m0 ((0 : Nat) + Int.toNat s10) (0 : Int))) fun x1 => cond (decide ((0 : Int) ≤ s10 ∧ s10 < (↑s3_n : Int))) (next (s3_n, s8_n, s9, IntKind.wrap .i64 (s10 + (1 : Int)), List.set m0 ((0 : Nat) + Int.toNat s10) x1)) (none)) (none)) (out (s3_n, m0))
def scan_Upper_L1_pass (d : scan_Upper_L1_D) : Option (scan_Upper_L1_D ⊕ scan_Upper_L1_R) := scan_Upper_L1_t d.1 d.2.1 d.2.2.1 d.2.2.2.1 d.2.2.2.2 (fun d => some (.inl d)) (fun x => some (.inr x))
def scan_Upper_L1 (d : scan_Upper_L1_D) : Option scan_Upper_L1_R := runs scan_Upper_L1_pass d
abbrev scan_Upper_R : Type := (ByteArray)
def scan_Upper_t {γ : Type} (a0 : ByteArray) (k : scan_Upper_R → Option γ) : Option γ := outOf (scan_Upper_L1 (ByteArray.size a0, ByteArray.size a0, (↑(ByteArray.size a0) : Int), (0 : Int), bytesI a0)) fun x2 => k (strOf (List.take x2.1 (List.drop (0 : Nat) x2.2)))
def scan_Upper (a0 : ByteArray) : Option scan_Upper_R := scan_Upper_t a0 some
abbrev hasPre1_R : Type := (Bool)
def hasPre1_t {γ : Type} (a0 : ByteArray) (a1 : ByteArray) (k : hasPre1_R → Option γ) : Option γ := outOf (hasPre0 a0 a1) fun x1 => k (x1)
def hasPre1 (a0 : ByteArray) (a1 : ByteArray) : Option hasPre1_R := hasPre1_t a0 a1 some
abbrev op_Name_R : Type := (ByteArray)
def op_Name_t {γ : Type} (a0 : Int) (k : op_Name_R → Option γ) : Option γ := outOf (op_in a0) fun x1 => cond (!x1) (k (bytesOf [])) (cond (decide ((0 : Int) ≤ a0 ∧ a0 < (111 : Int))) (k (List.getD op_names (Int.toNat a0) (bytesOf []))) (none))
def op_Name (a0 : Int) : Option op_Name_R := op_Name_t a0 some
abbrev indexF_L1_D : Type := (List Int) × Int × Int
abbrev indexF_L1_R : Type := ((Int) ⊕ (Unit))
def indexF_L1_t {γ : Type} (s0 : (List Int)) (s7 : Int) (s8 : Int) (next : indexF_L1_D → Option γ) (out : indexF_L1_R → Option γ) : Option γ := cond (decide (s8 < s7)) (cond (decide ((0 : Int) ≤ s8 ∧ s8 < (↑(List.length s0) : Int))) (cond (dict_named1 (List.getD s0 (Int.toNat s8) (0 : Int))) (out (.inl (s8))) (next (s0, s7, IntKind.wrap .i64 (s8 + (1 : Int))))) (none)) (out (.inr ()))
def indexF_L1_pass (d : indexF_L1_D) : Option (indexF_L1_D ⊕ indexF_L1_R) := indexF_L1_t d.1 d.2.1 d.2.2 (fun d => some (.inl d)) (fun x => some (.inr x))
def indexF_L1 (d : indexF_L1_D) : Option indexF_L1_R := runs indexF_L1_pass d
abbrev indexF_R : Type := (Int)
def indexF_t {γ : Type} (a0 : (List Int)) (k : indexF_R → Option γ) : Option γ := outOf (indexF_L1 (a0, (↑(List.length a0) : Int), (0 : Int))) fun x1 => sumOf x1 (fun x2 => k (x2)) (fun x3 => k ((-1 : Int)))
def indexF (a0 : (List Int)) : Option indexF_R := indexF_t a0 some
theorem SrOE2_ok : SrOE2.OK Tryz.prog := ((((SrOE1_ok).add_ok scan_Upper_good).add_ok hasPre1_good).add_ok op_Name_good).add_ok indexF_good
abbrev containsF_R : Type := (Bool)
def containsF_t {γ : Type} (a0 : (List Int)) (k : containsF_R → Option γ) : Option γ := outOf (indexF a0) fun x1 => k (decide (x1 ≥ (0 : Int)))
def containsF (a0 : (List Int)) : Option containsF_R := containsF_t a0 some
abbrev op_Hidden_R : Type := (Bool)
def op_Hidden_t {γ : Type} (a0 : Int) (k : op_Hidden_R → Option γ) : Option γ := outOf (op_Name a0) fun x1 => outOf (hasPre1 x1 (bytesOf [40])) fun x2 => k (x2)
def op_Hidden (a0 : Int) : Option op_Hidden_R := op_Hidden_t a0 some
theorem SrOE3_ok : SrOE3.OK Tryz.prog := ((SrOE2_ok).add_ok containsF_good).add_ok op_Hidden_good
abbrev dict_named_R : Type := (Bool)
def dict_named_t {γ : Type} (a0 : ByteArray) (k : dict_named_R → Option γ) : Option γ := outOf (dict_sized a0) fun x1 => cond x1 (outOf (scan_Upper a0) fun x2 => cond (ByteArray.toList x2 == ByteArray.toList a0) (outOf (containsF (List.take (ByteArray.size a0) (List.drop (0 : Nat) (bytesI a0)))) fun x3 => k (!x3)) (k (false))) (k (false))
def dict_named (a0 : ByteArray) : Option dict_named_R := dict_named_t a0 some
abbrev dict_visible_R : Type := (Bool)
def dict_visible_t {γ : Type} (a0 : Int) (k : dict_visible_R → Option γ) : Option γ := outOf (dict_within a0 (110 : Int)) fun x1 => cond x1 (outOf (op_Hidden a0) fun x2 => k (!x2)) (k (false))
def dict_visible (a0 : Int) : Option dict_visible_R := dict_visible_t a0 some
theorem SrOE4_ok : SrOE4.OK Tryz.prog := ((SrOE3_ok).add_ok dict_named_good).add_ok dict_visible_good
abbrev dict_Sane_R : Type := (Bool)
def dict_Sane_t {γ : Type} (a0_0 : ByteArray) (a0_1 : Bool) (a0_2 : Int) (a0_3 : Int) (a0_4 : Int) (a0_5 : Int) (k : dict_Sane_R → Option γ) : Option γ := outOf (dict_named a0_0) fun x1 => cond (!x1) (k (false)) (cond (a0_2 == (0 : Int)) (outOf (dict_visible a0_3) fun x2 => cond x2 (k (a0_4 == (0 : Int) && (a0_5 == (0 : Int) && true))) (k (false))) (cond (a0_2 == (1 : Int)) (cond (a0_2 == (1 : Int)) (outOf (dict_Addr a0_4 a0_5) fun x3 => k (decide (x3 ≥ (0 : Int)))) (cond (a0_2 == (2 : Int)) (k (true)) (k (a0_2 == (3 : Int))))) (cond (a0_2 == (4 : Int)) (outOf (dict_Addr a0_4 a0_5) fun x4 => k (decide (x4 ≥ (0 : Int)))) (cond (a0_2 == (2 : Int)) (k (true)) (k (a0_2 == (3 : Int)))))))
def dict_Sane (a0_0 : ByteArray) (a0_1 : Bool) (a0_2 : Int) (a0_3 : Int) (a0_4 : Int) (a0_5 : Int) : Option dict_Sane_R := dict_Sane_t a0_0 a0_1 a0_2 a0_3 a0_4 a0_5 some
theorem SrOE5_ok : SrOE5.OK Tryz.prog := (SrOE4_ok).add_ok dict_Sane_good
end
end Go.Proofs.Dbl
