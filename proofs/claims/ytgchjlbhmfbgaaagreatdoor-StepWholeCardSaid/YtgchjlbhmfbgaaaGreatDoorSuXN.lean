import Derived.Test.YtgchjlbhmfbgaaaGreatDoorSuXS
import Derived.Test.YtgchjlbhmfbgaaaGreatDoorSuCm
namespace Go.Proofs.Dbl
open Go Go.TX Go.Proofs
set_option maxRecDepth 100000
set_option linter.unusedVariables false
set_option maxHeartbeats 0
noncomputable section
theorem SuE5_ok : SuE5.OK Tryz.prog := (SrME3_ok.add_ok bytes_Clone_good).add_ok ev_Clone_good
abbrev mem_span_R : Type := ((List Int) × Bool)
def mem_span_t {γ : Type} (a0 : (List Int)) (a1 : Int) (a2 : Int) (k : mem_span_R → Option γ) : Option γ := cond (decide (a1 < (0 : Int))) (k ([], false)) (cond (decide (a2 < (0 : Int))) (k ([], false)) (cond (decide (a1 > (↑(List.length a0) : Int))) (k ([], false)) (cond (decide (a2 > IntKind.wrap .i64 ((↑(List.length a0) : Int) - a1))) (k ([], false)) (cond (decide ((0 : Int) ≤ a1 ∧ a1 ≤ IntKind.wrap .i64 (a1 + a2) ∧ IntKind.wrap .i64 (a1 + a2) ≤ IntKind.wrap .i64 (a1 + a2) ∧ IntKind.wrap .i64 (a1 + a2) ≤ (↑(List.length a0) : Int))) (k (List.take (Int.toNat (IntKind.wrap .i64 (a1 + a2)) - Int.toNat a1) (List.drop (Int.toNat a1) a0), true)) (none)))))
def mem_span (a0 : (List Int)) (a1 : Int) (a2 : Int) : Option mem_span_R := mem_span_t a0 a1 a2 some
def bits_Mul (a0 : Int) (a1 : Int) : Int × Int := (Prod.fst (mul64 a0 a1), Prod.snd (mul64 a0 a1))
abbrev mem_word_L1_D : Type := Int × Int × (List Int)
abbrev mem_word_L1_R : Type := ((List Int))
def mem_word_L1_t {γ : Type} (s0 : Int) (s5 : Int) (m0 : (List Int)) (next : mem_word_L1_D → Option γ) (out : mem_word_L1_R → Option γ) : Option γ := cond (decide (s5 < (8 : Int))) (cond (decide (IntKind.wrap .u64 (IntKind.wrap .i64 (s5 * (8 : Int))) < (0 : Int))) (none) (cond (decide ((0 : Int) ≤ s5 ∧ s5 < (8 : Int) ∧ (0 : Nat) + Int.toNat s5 < List.length m0)) (next (s0, IntKind.wrap .i64 (s5 + (1 : Int)), List.set m0 ((0 : Nat) + Int.toNat s5) (IntKind.wrap IntKind.u8 (Int.fdiv (IntKind.wrap .u64 s0) ((2 : Int) ^ min (Int.toNat (IntKind.wrap .u64 (IntKind.wrap .i64 (s5 * (8 : Int))))) (64 : Nat)))))) (none))) (out (m0))
def mem_word_L1_pass (d : mem_word_L1_D) : Option (mem_word_L1_D ⊕ mem_word_L1_R) := mem_word_L1_t d.1 d.2.1 d.2.2 (fun d => some (.inl d)) (fun x => some (.inr x))
def mem_word_L1 (d : mem_word_L1_D) : Option mem_word_L1_R := runs mem_word_L1_pass d
abbrev mem_word_R : Type := ((List Int))
def mem_word_t {γ : Type} (a0 : Int) (k : mem_word_R → Option γ) : Option γ := outOf (mem_word_L1 (a0, (0 : Int), [(0 : Int), (0 : Int), (0 : Int), (0 : Int), (0 : Int), (0 : Int), (0 : Int), (0 : Int)])) fun x1 => cond (decide (List.length x1 = (8 : Nat))) (k (List.take (8 : Nat) (List.drop (0 : Nat) x1))) (none)
def mem_word (a0 : Int) : Option mem_word_R := mem_word_t a0 some
abbrev guard_UserAt_R : Type := (Int × Bool)
def guard_UserAt_t {γ : Type} (a0 : Int) (k : guard_UserAt_R → Option γ) : Option γ := cond (decide (a0 < (0 : Int))) (k ((0 : Int), false)) (cond (decide (a0 ≥ (8 : Int))) (k ((0 : Int), false)) (k (IntKind.wrap .i64 ((4096 : Int) + IntKind.wrap .i64 (a0 * (128 : Int))), true)))
def guard_UserAt (a0 : Int) : Option guard_UserAt_R := guard_UserAt_t a0 some
abbrev guard_of_R : Type := (Int × Int × Int)
def guard_of_t {γ : Type} (a0 : Int) (k : guard_of_R → Option γ) : Option γ := cond (decide (a0 < (0 : Int))) (k ((-1 : Int), (-1 : Int), a0)) (cond (decide (a0 ≥ (5120 : Int))) (k ((-1 : Int), (-1 : Int), a0)) (cond (decide (a0 < (2048 : Int))) (k ((0 : Int), (-1 : Int), (2048 : Int))) (cond (decide (a0 < (4096 : Int))) (k ((1 : Int), (-1 : Int), (4096 : Int))) (k ((2 : Int), IntKind.wrap .i64 (Int.tdiv (IntKind.wrap .i64 (a0 - (4096 : Int))) (128 : Int)), IntKind.wrap .i64 ((4096 : Int) + IntKind.wrap .i64 (IntKind.wrap .i64 (IntKind.wrap .i64 (Int.tdiv (IntKind.wrap .i64 (a0 - (4096 : Int))) (128 : Int)) + (1 : Int)) * (128 : Int))))))))
def guard_of (a0 : Int) : Option guard_of_R := guard_of_t a0 some
abbrev guard_touches_R : Type := (Bool)
def guard_touches_t {γ : Type} (a0_0 : Int) (a0_1 : Bool) (a1_0 : Int) (a1_1 : Int) (a2 : Bool) (k : guard_touches_R → Option γ) : Option γ := cond (a1_0 == (0 : Int) && (a1_1 == (-1 : Int) && true)) (k (!a2)) (cond (a1_0 == (1 : Int) && (a1_1 == (-1 : Int) && true)) (k (a0_1)) (k (a1_0 == (2 : Int) && (a1_1 == a0_0 && true))))
def guard_touches (a0_0 : Int) (a0_1 : Bool) (a1_0 : Int) (a1_1 : Int) (a2 : Bool) : Option guard_touches_R := guard_touches_t a0_0 a0_1 a1_0 a1_1 a2 some
abbrev pic_area_R : Type := (Bool)
def pic_area_t {γ : Type} (a0 : Int) (k : pic_area_R → Option γ) : Option γ := cond (decide (a0 ≥ (0 : Int))) (k (decide (a0 ≤ (5120 : Int)))) (k (false))
def pic_area (a0 : Int) : Option pic_area_R := pic_area_t a0 some
def pic_end (a0 : Int) : Int := (IntKind.wrap .i64 (a0 + (128 : Int)))
abbrev pic_divide_R : Type := (Int × Int × Int)
def pic_divide_t {γ : Type} (a0_0 : Int) (a0_1 : Int) (a1 : Int) (k : pic_divide_R → Option γ) : Option γ := cond (decide (IntKind.wrap .u64 a1 = (0 : Int))) (none) (outOf (div64 (Int.tmod (IntKind.wrap .u64 a0_1) (IntKind.wrap .u64 a1)) (IntKind.wrap .u64 a0_0) (IntKind.wrap .u64 a1)) fun x1 => cond (decide (IntKind.wrap .u64 a1 = (0 : Int))) (none) (k (IntKind.wrap .i64 x1.1, IntKind.wrap .i64 (IntKind.wrap .u64 (Int.tdiv (IntKind.wrap .u64 a0_1) (IntKind.wrap .u64 a1))), IntKind.wrap .i64 x1.2)))
def pic_divide (a0_0 : Int) (a0_1 : Int) (a1 : Int) : Option pic_divide_R := pic_divide_t a0_0 a0_1 a1 some
theorem SrNE1_ok : SrNE1.OK Tryz.prog := (((((((((SuE5_ok).add_ok mem_span_good).add_ok bits_Mul_good).add_ok mem_word_good).add_ok guard_UserAt_good).add_ok guard_of_good).add_ok guard_touches_good).add_ok pic_area_good).add_ok pic_end_good).add_ok pic_divide_good
abbrev mem_slot_R : Type := ((List Int) × Int)
def mem_slot_t {γ : Type} (a0 : (List Int)) (a1 : Int) (k : mem_slot_R → Option γ) : Option γ := outOf (mem_span a0 a1 (8 : Int)) fun x2 => cond (!x2.2) (k ([], (-9 : Int))) (cond (a1 != cell_Aligned a1) (k ([], (-23 : Int))) (k (x2.1, (0 : Int))))
def mem_slot (a0 : (List Int)) (a1 : Int) : Option mem_slot_R := mem_slot_t a0 a1 some
abbrev bytes_Repeat_M1_R : Type := (Unit)
def bytes_Repeat_M1_t {γ : Type} (s1 : Int) (k : bytes_Repeat_M1_R → Option γ) : Option γ := cond (decide (s1 < (0 : Int))) (none) (k ())
def bytes_Repeat_M1 (s1 : Int) : Option bytes_Repeat_M1_R := bytes_Repeat_M1_t s1 some
abbrev bytes_Repeat_M2_R : Type := (Unit)
def bytes_Repeat_M2_t {γ : Type} (s5 : Int) (s6 : Int) (k : bytes_Repeat_M2_R → Option γ) : Option γ := cond (decide (s5 > (0 : Int))) (none) (cond (decide (s6 > (9223372036854775807 : Int))) (none) (k ()))
def bytes_Repeat_M2 (s5 : Int) (s6 : Int) : Option bytes_Repeat_M2_R := bytes_Repeat_M2_t s5 s6 some
abbrev bytes_Repeat_M3_R : Type := (Int)
def bytes_Repeat_M3_t {γ : Type} (s0 : (List Int)) (s8 : Int) (k : bytes_Repeat_M3_R → Option γ) : Option γ := cond (decide (s8 > (8192 : Int))) (cond (decide ((↑(List.length s0) : Int) = (0 : Int))) (none) (cond (IntKind.wrap .i64 (IntKind.wrap .i64 (Int.tdiv (8192 : Int) (↑(List.length s0) : Int)) * (↑(List.length s0) : Int)) == (0 : Int)) (k ((↑(List.length s0) : Int))) (k (IntKind.wrap .i64 (IntKind.wrap .i64 (Int.tdiv (8192 : Int) (↑(List.length s0) : Int)) * (↑(List.length s0) : Int)))))) (k (s8))
def bytes_Repeat_M3 (s0 : (List Int)) (s8 : Int) : Option bytes_Repeat_M3_R := bytes_Repeat_M3_t s0 s8 some
abbrev bytes_Repeat_L1_D : Type := Int × Int × Nat × Int × (List Int) × Nat
abbrev bytes_Repeat_L1_R : Type := (Nat × (List Int) × Nat)
def bytes_Repeat_L1_t {γ : Type} (s7 : Int) (s8 : Int) (s9_n : Nat) (s10 : Int) (m0_s : (List Int)) (m0_p : Nat) (next : bytes_Repeat_L1_D → Option γ) (out : bytes_Repeat_L1_R → Option γ) : Option γ := cond (decide (s10 < s7)) (cond (decide ((0 : Int) ≤ s10 ∧ s10 ≤ (↑s9_n : Int) ∧ (↑s9_n : Int) ≤ (↑s9_n : Int))) (cond (decide ((0 : Int) ≤ (0 : Int) ∧ ((0 : Int) ≤ if s8 < s10 then s8 else s10) ∧ (if s8 < s10 then s8 else s10) ≤ (↑s9_n : Int))) (cond (decide ((0 : Nat) + (Int.toNat (if s8 < s10 then s8 else s10) - (0 : Nat)) ≤ List.length m0_s)) (cond (decide ((0 : Nat) + Int.toNat s10 ≤ List.length m0_s)) (next (s7, s8, s9_n, IntKind.wrap .i64 (s10 + (↑(min (List.length (List.take (Int.toNat (if s8 < s10 then s8 else s10) - (0 : Nat)) (List.drop (0 : Nat) m0_s))) (Int.toNat (↑s9_n : Int) - Int.toNat s10)) : Int)), List.take ((0 : Nat) + Int.toNat s10) m0_s ++ List.take (Int.toNat (↑s9_n : Int) - Int.toNat s10) (List.take (Int.toNat (if s8 < s10 then s8 else s10) - (0 : Nat)) (List.drop (0 : Nat) m0_s)) ++ List.drop ((0 : Nat) + Int.toNat s10 + min (List.length (List.take (Int.toNat (if s8 < s10 then s8 else s10) - (0 : Nat)) (List.drop (0 : Nat) m0_s))) (Int.toNat (↑s9_n : Int) - Int.toNat s10)) m0_s, m0_p)) (none)) (none)) (none)) (none)) (out (s9_n, m0_s, m0_p))
def bytes_Repeat_L1_pass (d : bytes_Repeat_L1_D) : Option (bytes_Repeat_L1_D ⊕ bytes_Repeat_L1_R) := bytes_Repeat_L1_t d.1 d.2.1 d.2.2.1 d.2.2.2.1 d.2.2.2.2.1 d.2.2.2.2.2 (fun d => some (.inl d)) (fun x => some (.inr x))
def bytes_Repeat_L1 (d : bytes_Repeat_L1_D) : Option bytes_Repeat_L1_R := runs bytes_Repeat_L1_pass d
abbrev bytes_Repeat_R : Type := ((List Int))
def bytes_Repeat_t {γ : Type} (a0 : (List Int)) (a1 : Int) (k : bytes_Repeat_R → Option γ) : Option γ := cond (a1 == (0 : Int)) (k ([])) (outOf (bytes_Repeat_M1 a1) fun x17 => outOf (bytes_Repeat_M2 (Prod.fst (bits_Mul (IntKind.wrap .u64 (↑(List.length a0) : Int)) (IntKind.wrap .u64 a1))) (Prod.snd (bits_Mul (IntKind.wrap .u64 (↑(List.length a0) : Int)) (IntKind.wrap .u64 a1)))) fun x18 => cond ((↑(List.length a0) : Int) == (0 : Int)) (k ([])) (outOf (bytes_Repeat_M3 a0 (IntKind.wrap .i64 (Prod.snd (bits_Mul (IntKind.wrap .u64 (↑(List.length a0) : Int)) (IntKind.wrap .u64 a1))))) fun x19 => cond (decide ((1 : Int) ≤ IntKind.wrap .i64 (Prod.snd (bits_Mul (IntKind.wrap .u64 (↑(List.length a0) : Int)) (IntKind.wrap .u64 a1))) ∧ IntKind.wrap .i64 (Prod.snd (bits_Mul (IntKind.wrap .u64 (↑(List.length a0) : Int)) (IntKind.wrap .u64 a1))) ≤ (2147483648 : Int))) (cond (decide ((0 : Int) ≤ (0 : Int) ∧ (0 : Int) ≤ IntKind.wrap .i64 (Prod.snd (bits_Mul (IntKind.wrap .u64 (↑(List.length a0) : Int)) (IntKind.wrap .u64 a1))) ∧ IntKind.wrap .i64 (Prod.snd (bits_Mul (IntKind.wrap .u64 (↑(List.length a0) : Int)) (IntKind.wrap .u64 a1))) ≤ IntKind.wrap .i64 (Prod.snd (bits_Mul (IntKind.wrap .u64 (↑(List.length a0) : Int)) (IntKind.wrap .u64 a1))) ∧ IntKind.wrap .i64 (Prod.snd (bits_Mul (IntKind.wrap .u64 (↑(List.length a0) : Int)) (IntKind.wrap .u64 a1))) ≤ (↑(Int.toNat (IntKind.wrap .i64 (Prod.snd (bits_Mul (IntKind.wrap .u64 (↑(List.length a0) : Int)) (IntKind.wrap .u64 a1))))) : Int))) (outOf (bytes_Repeat_L1 (IntKind.wrap .i64 (Prod.snd (bits_Mul (IntKind.wrap .u64 (↑(List.length a0) : Int)) (IntKind.wrap .u64 a1))), x19, Int.toNat (IntKind.wrap .i64 (Prod.snd (bits_Mul (IntKind.wrap .u64 (↑(List.length a0) : Int)) (IntKind.wrap .u64 a1)))) - (0 : Nat), (↑(min (List.length a0) (Int.toNat (IntKind.wrap .i64 (Prod.snd (bits_Mul (IntKind.wrap .u64 (↑(List.length a0) : Int)) (IntKind.wrap .u64 a1)))) - (0 : Nat))) : Int), List.take (0 : Nat) [] ++ List.take (Int.toNat (IntKind.wrap .i64 (Prod.snd (bits_Mul (IntKind.wrap .u64 (↑(List.length a0) : Int)) (IntKind.wrap .u64 a1)))) - (0 : Nat)) a0 ++ List.drop ((0 : Nat) + min (List.length a0) (Int.toNat (IntKind.wrap .i64 (Prod.snd (bits_Mul (IntKind.wrap .u64 (↑(List.length a0) : Int)) (IntKind.wrap .u64 a1)))) - (0 : Nat))) [], Int.toNat (IntKind.wrap .i64 (Prod.snd (bits_Mul (IntKind.wrap .u64 (↑(List.length a0) : Int)) (IntKind.wrap .u64 a1)))))) fun x20 => cond (decide (x20.2.2 ≤ List.length x20.2.1)) (k (List.take x20.1 (List.drop (0 : Nat) x20.2.1))) (none)) (none)) (none)))
def bytes_Repeat (a0 : (List Int)) (a1 : Int) : Option bytes_Repeat_R := bytes_Repeat_t a0 a1 some
abbrev mem_with_R : Type := ((List Int))
def mem_with_t {γ : Type} (a0 : (List Int)) (a1 : Int) (a2 : (List Int)) (k : mem_with_R → Option γ) : Option γ := cond (decide (List.length a0 ≤ (2147483648 : Nat))) (cond (decide ((0 : Int) ≤ a1 ∧ a1 ≤ (↑(List.length a0) : Int) ∧ (↑(List.length a0) : Int) ≤ (↑(List.length a0) : Int))) (k (List.take (List.length a0) (List.drop (0 : Nat) (List.take ((0 : Nat) + Int.toNat a1) a0 ++ List.take (Int.toNat (↑(List.length a0) : Int) - Int.toNat a1) a2 ++ List.drop ((0 : Nat) + Int.toNat a1 + min (List.length a2) (Int.toNat (↑(List.length a0) : Int) - Int.toNat a1)) a0)))) (none)) (none)
def mem_with (a0 : (List Int)) (a1 : Int) (a2 : (List Int)) : Option mem_with_R := mem_with_t a0 a1 a2 some
abbrev mem_Text_R : Type := (ByteArray × Int)
def mem_Text_t {γ : Type} (a0 : (List Int)) (a1 : Int) (a2 : Int) (k : mem_Text_R → Option γ) : Option γ := outOf (mem_span a0 a1 a2) fun x1 => cond (!x1.2) (k (bytesOf [], (-9 : Int))) (k (strOf x1.1, (0 : Int)))
def mem_Text (a0 : (List Int)) (a1 : Int) (a2 : Int) : Option mem_Text_R := mem_Text_t a0 a1 a2 some
abbrev mem_Byte_R : Type := (Int × Int)
def mem_Byte_t {γ : Type} (a0 : (List Int)) (a1 : Int) (k : mem_Byte_R → Option γ) : Option γ := outOf (mem_span a0 a1 (1 : Int)) fun x1 => cond (!x1.2) (k ((0 : Int), (-9 : Int))) (cond (decide ((0 : Int) ≤ (0 : Int) ∧ (0 : Int) < (↑(List.length x1.1) : Int))) (k (IntKind.wrap .i64 (List.getD x1.1 (0 : Nat) (0 : Int)), (0 : Int))) (none))
def mem_Byte (a0 : (List Int)) (a1 : Int) : Option mem_Byte_R := mem_Byte_t a0 a1 some
abbrev guard_May_M1_R : Type := ((Bool) ⊕ (Unit))
def guard_May_M1_t {γ : Type} (s1 : Int) (s2 : Int) (k : guard_May_M1_R → Option γ) : Option γ := cond (decide (s2 < (0 : Int))) (k (.inl (false))) (cond (decide (s1 < (0 : Int))) (k (.inl (false))) (cond (decide (s1 > (5120 : Int))) (k (.inl (false))) (cond (decide (s2 > IntKind.wrap .i64 ((5120 : Int) - s1))) (k (.inl (false))) (k (.inr ())))))
def guard_May_M1 (s1 : Int) (s2 : Int) : Option guard_May_M1_R := guard_May_M1_t s1 s2 some
abbrev guard_May_L1_D : Type := Int × Bool × Int × Int × Bool
abbrev guard_May_L1_R : Type := ((Bool) ⊕ (Unit))
def guard_May_L1_t {γ : Type} (s1 : Int) (s3 : Bool) (s9 : Int) (m0_0 : Int) (m0_1 : Bool) (next : guard_May_L1_D → Option γ) (out : guard_May_L1_R → Option γ) : Option γ := cond (decide (s1 < s9)) (outOf (guard_of s1) fun x7 => cond (m0_0 != (-1 : Int)) (outOf (guard_touches m0_0 m0_1 x7.1 x7.2.1 s3) fun x8 => cond (!x8) (out (.inl (false))) (next (x7.2.2, s3, s9, m0_0, m0_1))) (next (x7.2.2, s3, s9, m0_0, m0_1))) (out (.inr ()))
def guard_May_L1_pass (d : guard_May_L1_D) : Option (guard_May_L1_D ⊕ guard_May_L1_R) := guard_May_L1_t d.1 d.2.1 d.2.2.1 d.2.2.2.1 d.2.2.2.2 (fun d => some (.inl d)) (fun x => some (.inr x))
def guard_May_L1 (d : guard_May_L1_D) : Option guard_May_L1_R := runs guard_May_L1_pass d
abbrev guard_May_R : Type := (Bool)
def guard_May_t {γ : Type} (a0_0 : Int) (a0_1 : Bool) (a1 : Int) (a2 : Int) (a3 : Bool) (k : guard_May_R → Option γ) : Option γ := outOf (guard_May_M1 a1 a2) fun x9 => sumOf x9 (fun x10 => k (x10)) (fun x11 => outOf (guard_May_L1 (a1, a3, IntKind.wrap .i64 (a1 + a2), a0_0, a0_1)) fun x12 => sumOf x12 (fun x13 => k (x13)) (fun x14 => k (true)))
def guard_May (a0_0 : Int) (a0_1 : Bool) (a1 : Int) (a2 : Int) (a3 : Bool) : Option guard_May_R := guard_May_t a0_0 a0_1 a1 a2 a3 some
abbrev step_User_R : Type := (Int)
def step_User_t {γ : Type} (a0 : Int) (k : step_User_R → Option γ) : Option γ := outOf (guard_UserAt a0) fun x1 => cond (!x1.2) (k ((4992 : Int))) (k x1.1)
def step_User (a0 : Int) : Option step_User_R := step_User_t a0 some
abbrev pic_pictured_R : Type := (Bool)
def pic_pictured_t {γ : Type} (a0 : Int) (a1 : Int) (k : pic_pictured_R → Option γ) : Option γ := cond (decide (a1 ≥ IntKind.wrap .i64 (a0 + (32 : Int)))) (k (decide (a1 < pic_end a0))) (k (false))
def pic_pictured (a0 : Int) (a1 : Int) : Option pic_pictured_R := pic_pictured_t a0 a1 some
theorem SrNE2_ok : SrNE2.OK Tryz.prog := ((((((((SrNE1_ok).add_ok mem_slot_good).add_ok bytes_Repeat_good).add_ok mem_with_good).add_ok mem_Text_good).add_ok mem_Byte_good).add_ok guard_May_good).add_ok step_User_good).add_ok pic_pictured_good
abbrev mem_Get_L1_D : Type := Int × Int × (List Int) × Int × Int
abbrev mem_Get_L1_R : Type := (Int × Int)
def mem_Get_L1_t {γ : Type} (s7 : Int) (s8 : Int) (s17 : (List Int)) (s18 : Int) (s19 : Int) (next : mem_Get_L1_D → Option γ) (out : mem_Get_L1_R → Option γ) : Option γ := cond (decide (s19 < s18)) (cond (decide ((0 : Int) ≤ s19 ∧ s19 < (↑(List.length s17) : Int))) (cond (decide (IntKind.wrap .u64 (IntKind.wrap .i64 (s19 * (8 : Int))) < (0 : Int))) (none) (next (s7, ibits BinOp.or IntKind.i64 s8 (IntKind.wrap .i64 (IntKind.wrap .i64 (List.getD s17 (Int.toNat s19) (0 : Int)) * (2 : Int) ^ min (Int.toNat (IntKind.wrap .u64 (IntKind.wrap .i64 (s19 * (8 : Int))))) (64 : Nat))), s17, s18, IntKind.wrap .i64 (s19 + (1 : Int))))) (none)) (out (s7, s8))
def mem_Get_L1_pass (d : mem_Get_L1_D) : Option (mem_Get_L1_D ⊕ mem_Get_L1_R) := mem_Get_L1_t d.1 d.2.1 d.2.2.1 d.2.2.2.1 d.2.2.2.2 (fun d => some (.inl d)) (fun x => some (.inr x))
def mem_Get_L1 (d : mem_Get_L1_D) : Option mem_Get_L1_R := runs mem_Get_L1_pass d
abbrev mem_Get_R : Type := (Int × Int)
def mem_Get_t {γ : Type} (a0 : (List Int)) (a1 : Int) (k : mem_Get_R → Option γ) : Option γ := outOf (mem_slot a0 a1) fun x3 => outOf (mem_Get_L1 (x3.2, (0 : Int), x3.1, (↑(List.length x3.1) : Int), (0 : Int))) fun x4 => k (x4.2, x4.1)
def mem_Get (a0 : (List Int)) (a1 : Int) : Option mem_Get_R := mem_Get_t a0 a1 some
abbrev mem_Put_R : Type := ((List Int) × Int)
def mem_Put_t {γ : Type} (a0 : (List Int)) (a1 : Int) (a2 : Int) (k : mem_Put_R → Option γ) : Option γ := outOf (mem_slot a0 a1) fun x1 => cond (x1.2 != (0 : Int)) (k (a0, x1.2)) (outOf (mem_word a2) fun x2 => outOf (mem_with a0 a1 x2) fun x3 => k (x3, (0 : Int)))
def mem_Put (a0 : (List Int)) (a1 : Int) (a2 : Int) : Option mem_Put_R := mem_Put_t a0 a1 a2 some
abbrev mem_Fill_R : Type := ((List Int) × Int)
def mem_Fill_t {γ : Type} (a0 : (List Int)) (a1 : Int) (a2 : Int) (a3 : Int) (k : mem_Fill_R → Option γ) : Option γ := outOf (mem_span a0 a1 a2) fun x1 => cond (!x1.2) (k (a0, (-9 : Int))) (outOf (bytes_Repeat [IntKind.wrap IntKind.u8 a3] a2) fun x2 => outOf (mem_with a0 a1 x2) fun x3 => k (x3, (0 : Int)))
def mem_Fill (a0 : (List Int)) (a1 : Int) (a2 : Int) (a3 : Int) : Option mem_Fill_R := mem_Fill_t a0 a1 a2 a3 some
abbrev mem_Move_R : Type := ((List Int) × Int)
def mem_Move_t {γ : Type} (a0 : (List Int)) (a1 : Int) (a2 : Int) (a3 : Int) (k : mem_Move_R → Option γ) : Option γ := outOf (mem_span a0 a1 a3) fun x1 => outOf (mem_span a0 a2 a3) fun x2 => cond (!x1.2) (k (a0, (-9 : Int))) (cond (!x2.2) (k (a0, (-9 : Int))) (outOf (mem_with a0 a2 x1.1) fun x3 => k (x3, (0 : Int))))
def mem_Move (a0 : (List Int)) (a1 : Int) (a2 : Int) (a3 : Int) : Option mem_Move_R := mem_Move_t a0 a1 a2 a3 some
theorem SrNE3_ok : SrNE3.OK Tryz.prog := ((((SrNE2_ok).add_ok mem_Get_good).add_ok mem_Put_good).add_ok mem_Fill_good).add_ok mem_Move_good
abbrev mem_PutByte_R : Type := ((List Int) × Int)
def mem_PutByte_t {γ : Type} (a0 : (List Int)) (a1 : Int) (a2 : Int) (k : mem_PutByte_R → Option γ) : Option γ := outOf (mem_Fill a0 a1 (1 : Int) a2) fun x1 => k (x1.1, x1.2)
def mem_PutByte (a0 : (List Int)) (a1 : Int) (a2 : Int) : Option mem_PutByte_R := mem_PutByte_t a0 a1 a2 some
abbrev mem_Swap_R : Type := ((List Int) × Int × Int)
def mem_Swap_t {γ : Type} (a0 : (List Int)) (a1 : Int) (a2 : Int) (a3 : Int) (k : mem_Swap_R → Option γ) : Option γ := outOf (mem_Get a0 a1) fun x1 => cond (x1.2 != (0 : Int)) (k (a0, (0 : Int), x1.2)) (cond (x1.1 != a2) (k (a0, (0 : Int), x1.2)) (outOf (mem_Put a0 a1 a3) fun x2 => k (x2.1, (-1 : Int), (0 : Int))))
def mem_Swap (a0 : (List Int)) (a1 : Int) (a2 : Int) (a3 : Int) : Option mem_Swap_R := mem_Swap_t a0 a1 a2 a3 some
abbrev guard_Read_R : Type := (Int × Int)
def guard_Read_t {γ : Type} (a0 : (List Int)) (a1_0 : Int) (a1_1 : Bool) (a2 : Int) (k : guard_Read_R → Option γ) : Option γ := outOf (guard_May a1_0 a1_1 a2 (8 : Int) false) fun x1 => cond (!x1) (k ((0 : Int), (-9 : Int))) (outOf (mem_Get a0 a2) fun x2 => k (x2.1, x2.2))
def guard_Read (a0 : (List Int)) (a1_0 : Int) (a1_1 : Bool) (a2 : Int) : Option guard_Read_R := guard_Read_t a0 a1_0 a1_1 a2 some
abbrev guard_Write_R : Type := ((List Int) × Int)
def guard_Write_t {γ : Type} (a0 : (List Int)) (a1_0 : Int) (a1_1 : Bool) (a2 : Int) (a3 : Int) (k : guard_Write_R → Option γ) : Option γ := outOf (guard_May a1_0 a1_1 a2 (8 : Int) true) fun x1 => cond (!x1) (k (a0, (-9 : Int))) (outOf (mem_Put a0 a2 a3) fun x2 => k (x2.1, x2.2))
def guard_Write (a0 : (List Int)) (a1_0 : Int) (a1_1 : Bool) (a2 : Int) (a3 : Int) : Option guard_Write_R := guard_Write_t a0 a1_0 a1_1 a2 a3 some
abbrev pic_held_R : Type := (Int × Int)
def pic_held_t {γ : Type} (a0 : (List Int)) (a1 : Int) (k : pic_held_R → Option γ) : Option γ := outOf (pic_area a1) fun x1 => cond (!x1) (k ((0 : Int), (-9 : Int))) (outOf (mem_Get a0 (IntKind.wrap .i64 (a1 + (8 : Int)))) fun x2 => k (x2.1, x2.2))
def pic_held (a0 : (List Int)) (a1 : Int) : Option pic_held_R := pic_held_t a0 a1 some
abbrev pic_Base_R : Type := (Int × Int)
def pic_Base_t {γ : Type} (a0 : (List Int)) (a1 : Int) (k : pic_Base_R → Option γ) : Option γ := outOf (pic_area a1) fun x1 => cond (!x1) (k ((0 : Int), (-9 : Int))) (outOf (mem_Get a0 (IntKind.wrap .i64 (a1 + (0 : Int)))) fun x2 => cond (x2.2 != (0 : Int)) (k ((0 : Int), x2.2)) (cond (decide (x2.1 < (2 : Int))) (k ((0 : Int), (-24 : Int))) (cond (decide (x2.1 > (36 : Int))) (k ((0 : Int), (-24 : Int))) (k (x2.1, (0 : Int))))))
def pic_Base (a0 : (List Int)) (a1 : Int) : Option pic_Base_R := pic_Base_t a0 a1 some
abbrev pic_Begin_R : Type := ((List Int) × Int)
def pic_Begin_t {γ : Type} (a0 : (List Int)) (a1 : Int) (k : pic_Begin_R → Option γ) : Option γ := outOf (pic_area a1) fun x1 => cond (!x1) (k (a0, (-9 : Int))) (outOf (mem_Put a0 (IntKind.wrap .i64 (a1 + (8 : Int))) (pic_end a1)) fun x2 => k (x2.1, x2.2))
def pic_Begin (a0 : (List Int)) (a1 : Int) : Option pic_Begin_R := pic_Begin_t a0 a1 some
theorem SrNE4_ok : SrNE4.OK Tryz.prog := (((((((SrNE3_ok).add_ok mem_PutByte_good).add_ok mem_Swap_good).add_ok guard_Read_good).add_ok guard_Write_good).add_ok pic_held_good).add_ok pic_Base_good).add_ok pic_Begin_good
abbrev pic_Hold_R : Type := ((List Int) × Int)
def pic_Hold_t {γ : Type} (a0 : (List Int)) (a1 : Int) (a2 : Int) (k : pic_Hold_R → Option γ) : Option γ := outOf (pic_held a0 a1) fun x1 => cond (x1.2 != (0 : Int)) (k (a0, x1.2)) (cond (decide (x1.1 > pic_end a1)) (k (a0, (-17 : Int))) (outOf (pic_pictured a1 (IntKind.wrap .i64 (x1.1 - (1 : Int)))) fun x2 => cond (!x2) (k (a0, (-17 : Int))) (outOf (mem_Put a0 (IntKind.wrap .i64 (a1 + (8 : Int))) (IntKind.wrap .i64 (x1.1 - (1 : Int)))) fun x3 => cond (x3.2 != (0 : Int)) (k (a0, x3.2)) (outOf (mem_PutByte x3.1 (IntKind.wrap .i64 (x1.1 - (1 : Int))) a2) fun x4 => cond (x4.2 != (0 : Int)) (k (a0, x4.2)) (k (x4.1, (0 : Int)))))))
def pic_Hold (a0 : (List Int)) (a1 : Int) (a2 : Int) : Option pic_Hold_R := pic_Hold_t a0 a1 a2 some
abbrev pic_End_R : Type := (Int × Int × Int)
def pic_End_t {γ : Type} (a0 : (List Int)) (a1 : Int) (k : pic_End_R → Option γ) : Option γ := outOf (pic_held a0 a1) fun x1 => cond (x1.2 != (0 : Int)) (k ((0 : Int), (0 : Int), x1.2)) (cond (x1.1 != pic_end a1) (outOf (pic_pictured a1 x1.1) fun x2 => cond (!x2) (k ((0 : Int), (0 : Int), (-9 : Int))) (k (x1.1, IntKind.wrap .i64 (pic_end a1 - x1.1), (0 : Int)))) (k (x1.1, IntKind.wrap .i64 (pic_end a1 - x1.1), (0 : Int))))
def pic_End (a0 : (List Int)) (a1 : Int) : Option pic_End_R := pic_End_t a0 a1 some
theorem SrNE5_ok : SrNE5.OK Tryz.prog := ((SrNE4_ok).add_ok pic_Hold_good).add_ok pic_End_good
abbrev pic_Digit_R : Type := ((List Int) × Int × Int × Int)
def pic_Digit_t {γ : Type} (a0 : (List Int)) (a1 : Int) (a2_0 : Int) (a2_1 : Int) (k : pic_Digit_R → Option γ) : Option γ := outOf (pic_Base a0 a1) fun x1 => cond (x1.2 != (0 : Int)) (k (a0, (0 : Int), (0 : Int), x1.2)) (outOf (pic_divide a2_0 a2_1 x1.1) fun x2 => outOf (num_Sign x2.2.2) fun x3 => cond (decide ((0 : Int) ≤ (0 : Int) ∧ (0 : Int) < (↑(ByteArray.size x3) : Int))) (outOf (pic_Hold a0 a1 (IntKind.wrap .i64 (↑(UInt8.toNat (List.getD (Array.toList (ByteArray.data x3)) (0 : Nat) (UInt8.ofNat (nat_lit 0)))) : Int))) fun x4 => cond (x4.2 != (0 : Int)) (k (a0, (0 : Int), (0 : Int), x4.2)) (k (x4.1, x2.1, x2.2.1, (0 : Int)))) (none))
def pic_Digit (a0 : (List Int)) (a1 : Int) (a2_0 : Int) (a2_1 : Int) : Option pic_Digit_R := pic_Digit_t a0 a1 a2_0 a2_1 some
abbrev pic_Sign_R : Type := ((List Int) × Int)
def pic_Sign_t {γ : Type} (a0 : (List Int)) (a1 : Int) (a2 : Int) (k : pic_Sign_R → Option γ) : Option γ := outOf (pic_area a1) fun x1 => cond (!x1) (k (a0, (-9 : Int))) (cond (decide (a2 < (0 : Int))) (outOf (pic_Hold a0 a1 (45 : Int)) fun x2 => k (x2.1, x2.2)) (k (a0, (0 : Int))))
def pic_Sign (a0 : (List Int)) (a1 : Int) (a2 : Int) : Option pic_Sign_R := pic_Sign_t a0 a1 a2 some
theorem SrNE6_ok : SrNE6.OK Tryz.prog := ((SrNE5_ok).add_ok pic_Digit_good).add_ok pic_Sign_good
abbrev pic_All_L1_D : Type := (List Int) × Int × (List Int) × Int × Int × Int × Int
abbrev pic_All_L1_R : Type := (((List Int) × Int × Int × Int) ⊕ ((List Int) × Int × Int × Int × Int))
def pic_All_L1_t {γ : Type} (s0 : (List Int)) (s1 : Int) (s9 : (List Int)) (m0_0 : Int) (m0_1 : Int) (m1_0 : Int) (m1_1 : Int) (next : pic_All_L1_D → Option γ) (out : pic_All_L1_R → Option γ) : Option γ := outOf (pic_Digit s9 s1 m0_0 m0_1) fun x1 => cond (x1.2.2.2 != (0 : Int)) (out (.inl (s0, x1.2.2.2, (0 : Int), (0 : Int)))) (cond (x1.2.1 == (0 : Int) && (x1.2.2.1 == (0 : Int) && true)) (out (.inr (x1.1, x1.2.1, x1.2.2.1, m1_0, m1_1))) (next (s0, s1, x1.1, x1.2.1, x1.2.2.1, m1_0, m1_1)))
def pic_All_L1_pass (d : pic_All_L1_D) : Option (pic_All_L1_D ⊕ pic_All_L1_R) := pic_All_L1_t d.1 d.2.1 d.2.2.1 d.2.2.2.1 d.2.2.2.2.1 d.2.2.2.2.2.1 d.2.2.2.2.2.2 (fun d => some (.inl d)) (fun x => some (.inr x))
def pic_All_L1 (d : pic_All_L1_D) : Option pic_All_L1_R := runs pic_All_L1_pass d
abbrev pic_All_R : Type := ((List Int) × Int × Int × Int)
def pic_All_t {γ : Type} (a0 : (List Int)) (a1 : Int) (a2_0 : Int) (a2_1 : Int) (k : pic_All_R → Option γ) : Option γ := outOf (pic_All_L1 (a0, a1, a0, a2_0, a2_1, (0 : Int), (0 : Int))) fun x2 => sumOf x2 (fun x3 => k (x3.1, x3.2.2.1, x3.2.2.2, x3.2.1)) (fun x4 => k (x4.1, x4.2.1, x4.2.2.1, (0 : Int)))
def pic_All (a0 : (List Int)) (a1 : Int) (a2_0 : Int) (a2_1 : Int) : Option pic_All_R := pic_All_t a0 a1 a2_0 a2_1 some
theorem SrNE7_ok : SrNE7.OK Tryz.prog := (SrNE6_ok).add_ok pic_All_good
end
end Go.Proofs.Dbl
