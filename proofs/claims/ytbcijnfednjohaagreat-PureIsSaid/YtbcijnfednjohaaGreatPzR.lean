/- Plain facts: the document's cells (layer 1). -/
import Derived.Test.YtbcijnfednjohaaGreatPzQ
import Derived.Lib.RuneCount
namespace Go.Proofs.Dbl
open Go Go.TX Go.Proofs
set_option maxRecDepth 100000
set_option maxHeartbeats 0
set_option linter.unusedVariables false
set_option linter.unusedSimpArgs false
theorem rFlag (b : Bool) : r1_Flag b = some (if b then -1 else 0) := by cases b <;> rfl
theorem rWrong (a b : Int) : r1_wrong a b = some (if b = 0 then -10 else if b = -1 ∧ a = -9223372036854775808 then -11 else 0) := by
  unfold r1_wrong r1_wrong_t
  by_cases h0 : b = 0
  · rw [beq_iff_eq.2 h0, if_pos h0]; rfl
  · rw [beq_eq_false_iff_ne.2 h0, if_neg h0]
    by_cases h1 : b = -1
    · rw [beq_iff_eq.2 h1]
      by_cases h2 : a = -9223372036854775808
      · rw [beq_iff_eq.2 h2, if_pos ⟨h1, h2⟩]; rfl
      · rw [beq_eq_false_iff_ne.2 h2, if_neg (fun h => h2 h.2)]; rfl
    · rw [beq_eq_false_iff_ne.2 h1, if_neg (fun h => h1 h.1)]; rfl
theorem rSymm1 {a b : Int} (ha : Cell a) (hb : Cell b) : r1_Symm a b = some (if b = 0 then (0, 0, -10) else if b = -1 ∧ a = -9223372036854775808 then (0, 0, -11) else (a.tdiv b, a.tmod b, 0)) := by
  unfold r1_Symm r1_Symm_t
  rw [rWrong]
  simp only [outOf_some]
  by_cases h0 : b = 0
  · rw [if_pos h0, if_pos h0]; rfl
  · rw [if_neg h0, if_neg h0]
    by_cases h1 : b = -1 ∧ a = -9223372036854775808
    · rw [if_pos h1, if_pos h1]; rfl
    · rw [if_neg h1, if_neg h1, decide_eq_false h0, wi, W_of (tdiv_cell ha hb h1)]; rfl
theorem not_beq (p q : Prop) [Decidable p] [Decidable q] : (!decide p == decide q) = decide (p ≠ q) := by
  by_cases hp : p <;> by_cases hq : q <;> simp [hp, hq]
theorem rFloor1 {a b : Int} (ha : Cell a) (hb : Cell b) : r1_Floor a b = some (F a b) := by
  unfold r1_Floor r1_Floor_t F
  rw [rSymm1 ha hb]
  simp only [outOf_some]
  by_cases h0 : b = 0
  · rw [if_pos h0, if_pos h0]; rfl
  · rw [if_neg h0, if_neg h0]
    by_cases h1 : b = -1 ∧ a = -9223372036854775808
    · rw [if_pos h1, if_pos h1]; rfl
    · rw [if_neg h1, if_neg h1]
      simp only
      obtain ⟨e1, e2⟩ := fdiv_of_tdiv (S := a) (hi := a) h0 Iff.rfl
      obtain ⟨f1, f2, f3⟩ := tmod_facts a b h0
      have hq := tdiv_cell ha hb h1
      have hr : Cell (a.tmod b) := by unfold Cell at *; omega
      rw [e1, e2, beq_self_eq_true]
      simp only [cond_true]
      by_cases g : a.tmod b = 0
      · rw [bne_eq_false_iff_eq.2 g, if_neg (fun h => h.1 g), if_neg (fun h => h.1 g)]; rfl
      · rw [bne_iff_ne.2 g]
        have hs : (a.tmod b < 0) ↔ (a < 0) := by
          constructor
          · intro h; exact Classical.byContradiction fun h' => by have := f2 (by omega); omega
          · intro h; have := f3 h; omega
        have hx : (!decide (a.tmod b < 0) == decide (b < 0)) = decide ((a < 0) ≠ (b < 0)) := by
          rw [not_beq, decide_eq_decide, hs]
        rw [hx]
        by_cases g2 : (a < 0) ≠ (b < 0)
        · rw [decide_eq_true g2, if_pos ⟨g, g2⟩, if_pos ⟨g, g2⟩, wi, wi]
          simp only [cond_true]
          have c1 : W (a.tmod b + b) = a.tmod b + b := W_of (by
            unfold Cell at *
            by_cases g3 : a < 0
            · have := f3 g3
              have : ¬ b < 0 := fun h => g2 (by simp [g3, h])
              omega
            · have := f2 (by omega)
              have : b < 0 := Classical.byContradiction fun h => g2 (by simp [g3, h])
              omega)
          have c2 : W (a.tdiv b - 1) = a.tdiv b - 1 := by
            refine W_of ?_
            have := Int.natAbs_tdiv a b
            have hb2 : b ≠ 1 := fun h => g (by rw [h, Int.tmod_one])
            have hb3 : b ≠ -1 := fun h => g (by rw [h, Int.tmod_neg, Int.tmod_one])
            have h6 : a.natAbs / b.natAbs ≤ a.natAbs / 2 := Nat.div_le_div_left (by omega) (by omega)
            unfold Cell at *
            have h7 : (a.tdiv b).natAbs = a.natAbs / b.natAbs := this
            omega
          rw [c1, c2]
        · rw [decide_eq_false g2, if_neg (fun h => g2 h.2), if_neg (fun h => g2 h.2)]; rfl
theorem rUlt1 (a b : Int) : ref_Ult a b = some (cell_Ult a b) := by
  rw [rUlt]
  unfold cell_Ult
  rw [wu, wu]
theorem rWithin1 (a b c : Int) : r1_Within a b c = some (cell_Within a b c) := by
  unfold r1_Within r1_Within_t cell_Within
  rw [rUlt1]
  rfl
theorem and_not7 {x : Int} : ibits .andNot .i64 (W x) 7 = W (x - x % 8) := by
  rw [ibits_def]
  show IntKind.wrap .i64 (((BitVec.ofInt 64 (W x) &&& ~~~ BitVec.ofInt 64 7).toNat : Nat) : Int) = _
  have hn : (BitVec.ofInt 64 (W x)).toNat = (x % 18446744073709551616).toNat := by
    rw [BitVec.toNat_ofInt, show ((2 ^ 64 : Nat) : Int) = 18446744073709551616 by decide, mod_W]
  have e : (BitVec.ofInt 64 (W x) &&& ~~~ BitVec.ofInt 64 7).toNat = (x % 18446744073709551616).toNat - (x % 18446744073709551616).toNat % 8 := by
    have h7 : (~~~ BitVec.ofInt 64 7 : BitVec 64) = BitVec.ofNat 64 (2 ^ 64 - 8) := by decide
    rw [h7, BitVec.toNat_and, hn, BitVec.toNat_ofNat, Nat.mod_eq_of_lt (show 2 ^ 64 - 8 < 2 ^ 64 by decide)]
    have hlt : (x % 18446744073709551616).toNat < 2 ^ 64 := by
      rw [show (2 : Nat) ^ 64 = 18446744073709551616 by decide]; omega
    generalize (x % 18446744073709551616).toNat = n at *
    have hs : n - n % 8 = (n >>> 3) <<< 3 := by
      rw [Nat.shiftRight_eq_div_pow, Nat.shiftLeft_eq]; omega
    rw [hs]
    apply Nat.eq_of_testBit_eq
    intro i
    rw [Nat.testBit_and, Nat.testBit_shiftLeft, Nat.testBit_shiftRight]
    have hc : (2 ^ 64 - 8 : Nat) = (2 ^ 61 - 1) <<< 3 := by decide
    rw [hc, Nat.testBit_shiftLeft, Nat.testBit_two_pow_sub_one]
    by_cases hi : 3 ≤ i
    · rw [show 3 + (i - 3) = i by omega]
      by_cases h2 : i - 3 < 61
      · simp [hi, h2]
      · have : n.testBit i = false := Nat.testBit_lt_two_pow (Nat.lt_of_lt_of_le hlt (Nat.pow_le_pow_right (by omega) (by omega)))
        simp [this]
    · simp [hi]
  rw [e, wi, W_eq]
  omega
theorem aligned_val (a : Int) : cell_Aligned a = W (a + 7 - (a + 7) % 8) := by
  unfold cell_Aligned
  rw [wi, wi]
  have : W (W (a + 8) - 1) = W (a + 7) := by rw [W_eq]; unfold W; omega
  rw [this, and_not7]
theorem al_bit (a : Int) {c : Int} {k : Nat} (hc : c = 2 ^ k) : (IntKind.wrap IntKind.i64 (ibits BinOp.and IntKind.u64 (Int.fdiv (IntKind.wrap IntKind.u64 a) c) 1) == (0 : Int)) = decide (a % 18446744073709551616 / 2 ^ k % 2 = 0) := by
  have h0 : 0 ≤ a % 18446744073709551616 := by omega
  have hp : (0 : Int) ≤ 2 ^ k := Int.le_of_lt (two_pos k)
  have h1 : a % 18446744073709551616 / 2 ^ k < 18446744073709551616 := Int.lt_of_le_of_lt (Int.ediv_le_self _ h0) (by omega)
  rw [hc, wu, Int.fdiv_eq_ediv_of_nonneg _ hp, and1 (Int.ediv_nonneg h0 hp) h1, wi, W_of (by unfold Cell; omega)]
  by_cases h : a % 18446744073709551616 / 2 ^ k % 2 = 0
  · rw [decide_eq_true h, h]; rfl
  · rw [decide_eq_false h, beq_eq_false_iff_ne]; exact h
theorem al_pass {a : Int} (ha : Cell a) {i : Nat} (hi : i < 8) : r1_Aligned_L1_pass (a, (i : Int)) = if a % 8 = 0 then some (.inr (.inl a)) else some (.inl (W (a + 1), ((i + 1 : Nat) : Int))) := by
  unfold r1_Aligned_L1_pass r1_Aligned_L1_t
  simp only
  have w2 : IntKind.wrap IntKind.i64 ((i : Int) + 1) = ((i + 1 : Nat) : Int) := by rw [wi, W_of ⟨by omega, by omega⟩]; omega
  rw [decide_eq_true (show (i : Int) < 8 by omega), al_bit a (c := 1) (k := 0) (by decide), al_bit a (c := 2) (k := 1) (by decide), al_bit a (c := 4) (k := 2) (by decide), w2, wi]
  rw [show (2 : Int) ^ 0 = 1 by decide, show (2 : Int) ^ 1 = 2 by decide, show (2 : Int) ^ 2 = 4 by decide, Int.ediv_one]
  by_cases h1 : a % 18446744073709551616 % 2 = 0
  · rw [decide_eq_true h1]
    by_cases h2 : a % 18446744073709551616 / 2 % 2 = 0
    · rw [decide_eq_true h2]
      by_cases h3 : a % 18446744073709551616 / 4 % 2 = 0
      · rw [decide_eq_true h3, if_pos (by omega)]; rfl
      · rw [decide_eq_false h3, if_neg (by omega)]; rfl
    · rw [decide_eq_false h2, if_neg (by omega)]; rfl
  · rw [decide_eq_false h1, if_neg (by omega)]; rfl
theorem al_loop : ∀ (k i : Nat) (a : Int), Cell a → i + k = 8 → (a % 8 = 0 ∧ 1 ≤ k ∨ 8 - a % 8 < k) → r1_Aligned_L1 (a, (i : Int)) = some (.inl (W (a + 7 - (a + 7) % 8))) := by
  intro k
  induction k with
  | zero => intro i a ha hik h; exfalso; omega
  | succ k ih =>
    intro i a ha hik h
    have hp := al_pass ha (i := i) (by omega)
    by_cases h8 : a % 8 = 0
    · rw [if_pos h8] at hp
      have : W (a + 7 - (a + 7) % 8) = a := by rw [show a + 7 - (a + 7) % 8 = a by omega, W_of ha]
      rw [this]
      exact runs_out hp
    · rw [if_neg h8] at hp
      unfold r1_Aligned_L1
      rw [runs_next hp]
      have hm : W (a + 1) % 8 = (a + 1) % 8 := by unfold W; omega
      have := ih (i + 1) (W (a + 1)) (W_cell _) (by omega) (by omega)
      unfold r1_Aligned_L1 at this
      rw [this]
      have : W (W (a + 1) + 7 - (W (a + 1) + 7) % 8) = W (a + 7 - (a + 7) % 8) := by rw [W_eq]; unfold W; omega
      rw [this]
theorem rAligned {a : Int} (ha : Cell a) : r1_Aligned a = some (cell_Aligned a) := by
  unfold r1_Aligned r1_Aligned_t
  have := al_loop 8 0 a ha (by omega) (by omega)
  rw [show (((0 : Nat) : Int)) = 0 from rfl] at this
  rw [this, aligned_val]
  rfl
end Go.Proofs.Dbl

/- Plain facts: the document's shifts. -/
namespace Go.Proofs.Dbl
open Go Go.TX Go.Proofs
set_option maxRecDepth 100000
set_option maxHeartbeats 0
set_option linter.unusedVariables false
set_option linter.unusedSimpArgs false
theorem set_tail (p : List Int) (k : Nat) (v : Int) : (p ++ List.replicate (k + 1) 0).set p.length v = (p ++ [v]) ++ List.replicate k 0 := by
  rw [List.set_append_right _ _ (Nat.le_refl _), Nat.sub_self, List.replicate_succ, List.set_cons_zero, List.append_assoc]
  rfl
theorem valL_zeros (n : Nat) (l : List Int) : valL (List.replicate n 0 ++ l) = 2 ^ n * valL l := by
  induction n with
  | zero => simp
  | succ n ih =>
    rw [List.replicate_succ, List.cons_append]
    show 0 + 2 * valL (List.replicate n 0 ++ l) = _
    rw [ih, Int.pow_succ, Int.zero_add, ← Int.mul_assoc, Int.mul_comm 2]
theorem valL_tail (l : List Int) (n : Nat) : valL (l ++ List.replicate n 0) = valL l := by
  induction l with
  | nil =>
    have := valL_zeros n []
    rw [List.append_nil] at this
    rw [List.nil_append, this]
    show 2 ^ n * (0 : Int) = 0
    rw [Int.mul_zero]
  | cons x l ih =>
    rw [List.cons_append]
    show x + 2 * valL (l ++ List.replicate n 0) = x + 2 * valL l
    rw [ih]
theorem shl_step {a : Int} {n j : Nat} (h : n + j < 64) :
    r1_Shl_L1_pass (a, (n : Int), 64, ((n + j : Nat) : Int), (List.replicate n 0 ++ bitL (a % 18446744073709551616) j) ++ List.replicate (64 - n - j) 0) =
      some (.inl (a, (n : Int), 64, ((n + (j + 1) : Nat) : Int), (List.replicate n 0 ++ bitL (a % 18446744073709551616) (j + 1)) ++ List.replicate (64 - n - (j + 1)) 0)) := by
  unfold r1_Shl_L1_pass r1_Shl_L1_t
  simp only
  have w1 : IntKind.wrap IntKind.i64 (((n + j : Nat) : Int) - (n : Int)) = (j : Int) := by rw [wi, W_of ⟨by omega, by omega⟩]; omega
  have w2 : IntKind.wrap IntKind.i64 (((n + j : Nat) : Int) + 1) = ((n + (j + 1) : Nat) : Int) := by rw [wi, W_of ⟨by omega, by omega⟩]; omega
  rw [decide_eq_true (show ((n + j : Nat) : Int) < 64 by omega), w1, Bit_eq a j (by omega), w2]
  simp only [outOf_some, cond_true]
  rw [decide_eq_true (show (0 : Int) ≤ ((n + j : Nat) : Int) ∧ ((n + j : Nat) : Int) < ((64 : Nat) : Int) by omega), Int.toNat_natCast, Nat.zero_add]
  have hl : (List.replicate n (0 : Int) ++ bitL (a % 18446744073709551616) j).length = n + j := by simp [bitL_len]
  have e : 64 - n - j = (64 - n - (j + 1)) + 1 := by omega
  have hs := set_tail (List.replicate n (0 : Int) ++ bitL (a % 18446744073709551616) j) (64 - n - (j + 1)) (a % 18446744073709551616 / 2 ^ j % 2)
  rw [hl] at hs
  rw [e, hs, bitL_succ, List.append_assoc (List.replicate n 0)]
  rfl
theorem rep01 {l : List Int} (h : ∀ b ∈ l, b = 0 ∨ b = 1) (n : Nat) : (∀ b ∈ List.replicate n 0 ++ l, b = 0 ∨ b = 1) ∧ (∀ b ∈ l ++ List.replicate n 0, b = 0 ∨ b = 1) := by
  constructor
  · intro b hb
    rcases List.mem_append.1 hb with h1 | h1
    · exact .inl (List.eq_of_mem_replicate h1)
    · exact h b h1
  · intro b hb
    rcases List.mem_append.1 hb with h1 | h1
    · exact h b h1
    · exact .inl (List.eq_of_mem_replicate h1)
theorem shl_W {a : Int} {n : Nat} (h : n ≤ 63) : W (2 ^ n * (a % 18446744073709551616 % 2 ^ (64 - n))) = W (a * 2 ^ n) := by
  have hp : (2 : Int) ^ n * 2 ^ (64 - n) = 18446744073709551616 := by
    rw [← Int.pow_add, show n + (64 - n) = 64 by omega]; decide
  have h1 := Int.emod_add_mul_ediv (a % 18446744073709551616) (2 ^ (64 - n))
  have h2 := Int.emod_add_mul_ediv a 18446744073709551616
  have e1 : a % 18446744073709551616 % 2 ^ (64 - n) = a - 18446744073709551616 * (a / 18446744073709551616) - 2 ^ (64 - n) * (a % 18446744073709551616 / 2 ^ (64 - n)) := by omega
  rw [e1, Int.mul_sub, Int.mul_sub, ← Int.mul_assoc (2 ^ n) (2 ^ (64 - n)), hp, Int.mul_comm (2 ^ n) a, Int.mul_left_comm (2 ^ n)]
  generalize 2 ^ n * (a / 18446744073709551616) = y
  generalize a % 18446744073709551616 / 2 ^ (64 - n) = z
  generalize a * 2 ^ n = x
  rw [W_eq]
  omega
theorem shlV_at {a b : Int} (hb : Cell b) : shlV a b = if 0 ≤ b ∧ b < 64 then W (a * 2 ^ b.toNat) else 0 := by
  unfold shlV cell_Shl cell_Shl_t
  rw [shifts_eq]
  simp only [outOf_some]
  rw [decide_eq_false (tmod_nn b)]
  simp only [cond_false]
  rw [either_eq]
  simp only [outOf_some, Option.getD_some]
  by_cases h : 0 ≤ b ∧ b < 64
  · rw [if_pos h, if_pos h.1, decide_eq_true h.2, if_pos rfl, wi, wu, Int.tmod_eq_emod_of_nonneg (by omega)]
    have : min (Int.toNat (b % 18446744073709551616 % 64)) 64 = b.toNat := by omega
    rw [this]
  · rw [if_neg h]
    by_cases h0 : b ≥ 0
    · rw [if_pos h0, decide_eq_false (by omega)]; rfl
    · rw [if_neg h0]; rfl
theorem shrV_at {a b : Int} (hb : Cell b) : shrV a b = if 0 ≤ b ∧ b < 64 then W (a % 18446744073709551616 / 2 ^ b.toNat) else 0 := by
  unfold shrV cell_Shr cell_Shr_t
  rw [shifts_eq]
  simp only [outOf_some]
  rw [decide_eq_false (tmod_nn b)]
  simp only [cond_false]
  rw [either_eq]
  simp only [outOf_some, Option.getD_some]
  by_cases h : 0 ≤ b ∧ b < 64
  · rw [if_pos h, if_pos h.1, decide_eq_true h.2, if_pos rfl, wi, wu, wu, Int.tmod_eq_emod_of_nonneg (by omega)]
    have : min (Int.toNat (b % 18446744073709551616 % 64)) 64 = b.toNat := by omega
    rw [this, Int.fdiv_eq_ediv_of_nonneg _ (Int.le_of_lt (two_pos _))]
  · rw [if_neg h]
    by_cases h0 : b ≥ 0
    · rw [if_pos h0, decide_eq_false (by omega)]; rfl
    · rw [if_neg h0]; rfl
theorem rShl {a b : Int} (hb : Cell b) : r1_Shl a b = some (shlV a b) := by
  rw [shlV_at hb]
  unfold r1_Shl r1_Shl_t
  by_cases h : 0 ≤ b ∧ b < 64
  · have m1 : r1_Shl_M1 b = some (.inr ()) := by
      unfold r1_Shl_M1 r1_Shl_M1_t
      rw [decide_eq_false (by omega), decide_eq_false (by omega)]; rfl
    obtain ⟨n, rfl⟩ : ∃ n : Nat, b = n := ⟨b.toNat, by omega⟩
    rw [m1, if_pos h, Int.toNat_natCast]
    simp only [outOf_some, sumOf]
    have lp : r1_Shl_L1 (a, (n : Int), 64, (n : Int), List.replicate 64 0) = some (64, List.replicate n 0 ++ bitL (a % 18446744073709551616) (64 - n)) := by
      unfold r1_Shl_L1
      have hr := runs_all (pass := r1_Shl_L1_pass) (fun j : Nat => ((a, (n : Int), 64, ((n + j : Nat) : Int), (List.replicate n 0 ++ bitL (a % 18446744073709551616) j) ++ List.replicate (64 - n - j) 0) : r1_Shl_L1_D)) (64 - n) (x := (64, List.replicate n 0 ++ bitL (a % 18446744073709551616) (64 - n))) (fun j hj => shl_step (by omega)) ?_
      · have e0 : (List.replicate n (0 : Int) ++ bitL (a % 18446744073709551616) 0) ++ List.replicate (64 - n - 0) 0 = List.replicate 64 0 := by
          have : bitL (a % 18446744073709551616) 0 = [] := rfl
          rw [this, List.append_nil, List.replicate_append_replicate, show n + (64 - n - 0) = 64 by omega]
        simp only [e0, Nat.add_zero] at hr
        exact hr
      · show r1_Shl_L1_pass (a, (n : Int), 64, ((n + (64 - n) : Nat) : Int), _) = _
        unfold r1_Shl_L1_pass r1_Shl_L1_t
        simp only
        rw [decide_eq_false (by omega), Nat.sub_self]
        simp
    rw [lp]
    simp only [List.drop_zero, outOf_some]
    have hl : (List.replicate n (0 : Int) ++ bitL (a % 18446744073709551616) (64 - n)).length = 64 := by simp [bitL_len]; omega
    rw [List.take_of_length_le (by omega), Make_eq _ hl (rep01 bitL_01 n).1, valL_zeros, valL_bitL, shl_W (by omega)]
    rfl
  · have m1 : r1_Shl_M1 b = some (.inl 0) := by
      unfold r1_Shl_M1 r1_Shl_M1_t
      by_cases h0 : b < 0
      · rw [decide_eq_true h0]; rfl
      · rw [decide_eq_false h0, decide_eq_true (by omega)]; rfl
    rw [m1, if_neg h]
    rfl
theorem shr_step {a : Int} {n j : Nat} (h : n + j < 64) :
    r1_Shr_L1_pass (a, (n : Int), 64, (j : Int), bitL (a % 18446744073709551616 / 2 ^ n) j ++ List.replicate (64 - j) 0) =
      some (.inl (a, (n : Int), 64, ((j + 1 : Nat) : Int), bitL (a % 18446744073709551616 / 2 ^ n) (j + 1) ++ List.replicate (64 - (j + 1)) 0)) := by
  unfold r1_Shr_L1_pass r1_Shr_L1_t
  simp only
  have w1 : IntKind.wrap IntKind.i64 ((j : Int) + (n : Int)) = ((n + j : Nat) : Int) := by rw [wi, W_of ⟨by omega, by omega⟩]; omega
  have w2 : IntKind.wrap IntKind.i64 ((j : Int) + 1) = ((j + 1 : Nat) : Int) := by rw [wi, W_of ⟨by omega, by omega⟩]; omega
  rw [w1, decide_eq_true (show ((n + j : Nat) : Int) < 64 by omega), Bit_eq a (n + j) (by omega), w2]
  simp only [outOf_some, cond_true]
  rw [decide_eq_true (show (0 : Int) ≤ (j : Int) ∧ (j : Int) < ((64 : Nat) : Int) by omega), Int.toNat_natCast, Nat.zero_add]
  have hl : (bitL (a % 18446744073709551616 / 2 ^ n) j).length = j := bitL_len _ _
  have e : 64 - j = (64 - (j + 1)) + 1 := by omega
  have hv : a % 18446744073709551616 / 2 ^ (n + j) % 2 = a % 18446744073709551616 / 2 ^ n / 2 ^ j % 2 := by
    rw [Int.pow_add, Int.ediv_ediv_of_nonneg (Int.le_of_lt (two_pos n))]
  have hs := set_tail (bitL (a % 18446744073709551616 / 2 ^ n) j) (64 - (j + 1)) (a % 18446744073709551616 / 2 ^ n / 2 ^ j % 2)
  rw [hl] at hs
  rw [e, hv, hs, bitL_succ]
  rfl
theorem rShr {a b : Int} (hb : Cell b) : r1_Shr a b = some (shrV a b) := by
  rw [shrV_at hb]
  unfold r1_Shr r1_Shr_t
  by_cases h : 0 ≤ b ∧ b < 64
  · have m1 : r1_Shr_M1 b = some (.inr ()) := by
      unfold r1_Shr_M1 r1_Shr_M1_t
      rw [decide_eq_false (by omega), decide_eq_false (by omega)]; rfl
    obtain ⟨n, rfl⟩ : ∃ n : Nat, b = n := ⟨b.toNat, by omega⟩
    rw [m1, if_pos h, Int.toNat_natCast]
    simp only [outOf_some, sumOf]
    have lp : r1_Shr_L1 (a, (n : Int), 64, 0, List.replicate 64 0) = some (64, bitL (a % 18446744073709551616 / 2 ^ n) (64 - n) ++ List.replicate (64 - (64 - n)) 0) := by
      unfold r1_Shr_L1
      have hr := runs_all (pass := r1_Shr_L1_pass) (fun j : Nat => ((a, (n : Int), 64, (j : Int), bitL (a % 18446744073709551616 / 2 ^ n) j ++ List.replicate (64 - j) 0) : r1_Shr_L1_D)) (64 - n) (x := (64, bitL (a % 18446744073709551616 / 2 ^ n) (64 - n) ++ List.replicate (64 - (64 - n)) 0)) (fun j hj => shr_step (by omega)) ?_
      · exact hr
      · show r1_Shr_L1_pass (a, (n : Int), 64, ((64 - n : Nat) : Int), _) = _
        unfold r1_Shr_L1_pass r1_Shr_L1_t
        simp only
        have w1 : IntKind.wrap IntKind.i64 (((64 - n : Nat) : Int) + (n : Int)) = 64 := by rw [wi, W_of ⟨by omega, by omega⟩]; omega
        rw [w1]
        rfl
    rw [lp]
    simp only [List.drop_zero, outOf_some]
    have hl : (bitL (a % 18446744073709551616 / 2 ^ n) (64 - n) ++ List.replicate (64 - (64 - n)) (0 : Int)).length = 64 := by simp [bitL_len]
    have hlt : a % 18446744073709551616 / 2 ^ n < 2 ^ (64 - n) := by
      have hp : (2 : Int) ^ (64 - n) * 2 ^ n = 18446744073709551616 := by
        rw [← Int.pow_add, show (64 - n) + n = 64 by omega]; decide
      exact Int.ediv_lt_of_lt_mul (two_pos n) (by rw [hp]; omega)
    have h0 : 0 ≤ a % 18446744073709551616 / 2 ^ n := Int.ediv_nonneg (by omega) (Int.le_of_lt (two_pos n))
    rw [List.take_of_length_le (by omega), Make_eq _ hl (rep01 bitL_01 _).2, valL_tail, valL_bitL, Int.emod_eq_of_lt h0 hlt]
    rfl
  · have m1 : r1_Shr_M1 b = some (.inl 0) := by
      unfold r1_Shr_M1 r1_Shr_M1_t
      by_cases h0 : b < 0
      · rw [decide_eq_true h0]; rfl
      · rw [decide_eq_false h0, decide_eq_true (by omega)]; rfl
    rw [m1, if_neg h]
    rfl
end Go.Proofs.Dbl

/- Plain facts: the document's tables of operations, and stacks. -/
namespace Go.Proofs.Dbl
open Go Go.TX Go.Proofs
set_option maxRecDepth 100000
set_option maxHeartbeats 0
set_option linter.unusedVariables false
set_option linter.unusedSimpArgs false
theorem rgroup_in : (List.range 111).all (fun n => match r7_Group (n : Int) with | some g => (g == 1) == decide (18 ≤ n ∧ n ≤ 74) | none => false) = true := by kernel_rfl
theorem rneed_in : (List.range 57).all (fun n => match r7_Needs ((n + 18 : Nat) : Int) with | some g => g == (need (n + 18) : Int) | none => false) = true := by kernel_rfl
/-- How many cells are left: of the operations of which that is said. -/
def leavsL : List Nat := [2, 0, 2, 3, 3, 1, 3, 4, 0, 4, 6, 0, 1, 0, 1, 1, 1, 1, 1, 1, 2, 1, 2, 1, 1, 1, 1, 1, 1, 1, 1, 1, 1, 1, 1, 1, 1, 1, 1, 1, 1, 1, 1, 1, 1, 2, 2, 2, 2, 2, 2, 2, 2, 1, 1, 1, 1]
def leavs (k : Nat) : Nat := leavsL.getD (k - 18) 0
theorem rleaves_in : (List.range 57).all (fun n => decide (n = 11) || match r7_Leaves ((n + 18 : Nat) : Int) with | some g => g.1 == (leavs (n + 18) : Int) && g.2 | none => false) = true := by kernel_rfl
theorem rgroup_far {o : Int} (h : o < 0 ∨ 111 ≤ o) : r7_Group o = some (-1) := by
  have h1 : r7_in o = some false := by
    unfold r7_in r7_in_t
    by_cases h0 : o ≥ 0
    · rw [decide_eq_true h0, decide_eq_false (by omega)]; rfl
    · rw [decide_eq_false h0]; rfl
  unfold r7_Group r7_Group_t
  rw [h1]
  rfl
theorem rgroup_out {o : Int} (h : ¬ (18 ≤ o ∧ o ≤ 74)) : ∃ g, r7_Group o = some g ∧ g ≠ 1 := by
  by_cases hf : o < 0 ∨ 111 ≤ o
  · exact ⟨-1, rgroup_far hf, by decide⟩
  · have := List.all_eq_true.1 rgroup_in o.toNat (List.mem_range.2 (by omega))
    rw [Int.toNat_of_nonneg (by omega)] at this
    cases hg : r7_Group o with
    | none => rw [hg] at this; cases this
    | some g =>
      rw [hg] at this
      refine ⟨g, rfl, fun e => ?_⟩
      subst e
      simp only [beq_self_eq_true, beq_iff_eq] at this
      have := of_decide_eq_true this.symm
      omega
theorem rgroup_1 {k : Nat} (h1 : 18 ≤ k) (h2 : k ≤ 74) : r7_Group (k : Int) = some 1 := by
  have := List.all_eq_true.1 rgroup_in k (List.mem_range.2 (by omega))
  cases hg : r7_Group (k : Int) with
  | none => rw [hg] at this; cases this
  | some g =>
    rw [hg] at this
    rw [decide_eq_true (show 18 ≤ k ∧ k ≤ 74 from ⟨h1, h2⟩)] at this
    simp only [beq_true, beq_iff_eq] at this
    rw [this]
theorem rneeds {k : Nat} (h1 : 18 ≤ k) (h2 : k ≤ 74) : r7_Needs (k : Int) = some (need k : Int) := by
  have := List.all_eq_true.1 rneed_in (k - 18) (List.mem_range.2 (by omega))
  rw [show k - 18 + 18 = k from by omega] at this
  cases hg : r7_Needs (k : Int) with
  | none => rw [hg] at this; cases this
  | some g => rw [hg] at this; rw [beq_iff_eq.1 this]
theorem rleaves {k : Nat} (h1 : 18 ≤ k) (h2 : k ≤ 74) (h3 : k ≠ 29) : r7_Leaves (k : Int) = some ((leavs k : Int), true) := by
  have := List.all_eq_true.1 rleaves_in (k - 18) (List.mem_range.2 (by omega))
  rw [show k - 18 + 18 = k from by omega, decide_eq_false (show ¬ k - 18 = 11 by omega), Bool.false_or] at this
  cases hg : r7_Leaves (k : Int) with
  | none => rw [hg] at this; cases this
  | some g =>
    rw [hg] at this
    obtain ⟨g1, g2⟩ := g
    simp only [Bool.and_eq_true, beq_iff_eq] at this
    rw [this.1, this.2]
theorem rPush {l x : List Int} (hl : l.length ≤ 1000) (hx : x.length ≤ 1000) : r4_Push l 64 x = some (if 64 < l.length + x.length then (l, -3) else (l ++ x, 0)) := by
  unfold r4_Push r4_Push_t
  have w : IntKind.wrap IntKind.i64 ((l.length : Int) + (x.length : Int)) = ((l.length + x.length : Nat) : Int) := by rw [wi, W_of ⟨by omega, by omega⟩]; omega
  rw [w]
  by_cases h : 64 < l.length + x.length
  · rw [decide_eq_true (by omega), if_pos h]; rfl
  · rw [decide_eq_false (by omega), if_neg h, decide_eq_true (by omega), decide_eq_true (by omega)]
    simp only [cond_true, cond_false, List.drop_zero, List.take_length]
    rw [List.take_of_length_le (by simp)]
theorem rPick {l : List Int} (hl : l.length ≤ 1000) {n : Int} (hn : Cell n) : r4_Pick l n = some (if 0 ≤ n ∧ n < l.length then (l.getD (l.length - 1 - n.toNat) 0, 0) else (0, -4)) := by
  unfold Cell at hn
  unfold r4_Pick r4_Pick_t
  by_cases h0 : n < 0
  · rw [decide_eq_true h0, if_neg (by omega)]; rfl
  · rw [decide_eq_false h0]
    by_cases h1 : n ≥ l.length
    · rw [decide_eq_true h1, if_neg (by omega)]; rfl
    · have w : IntKind.wrap IntKind.i64 (IntKind.wrap IntKind.i64 ((l.length : Int) - 1) - n) = (l.length : Int) - 1 - n := by
        rw [wi, wi, W_of (x := (l.length : Int) - 1) ⟨by omega, by omega⟩, W_of ⟨by omega, by omega⟩]
      rw [decide_eq_false h1, w, decide_eq_true (by omega), if_pos ⟨by omega, by omega⟩]
      have : Int.toNat ((l.length : Int) - 1 - n) = l.length - 1 - n.toNat := by omega
      rw [this]; rfl
end Go.Proofs.Dbl

/- Plain facts: what the document's operations tell. -/
namespace Go.Proofs.Dbl
open Go Go.TX Go.Proofs
set_option maxRecDepth 100000
set_option maxHeartbeats 0
set_option linter.unusedVariables false
set_option linter.unusedSimpArgs false
theorem bytesOf_toList (l : List Nat) : ByteArray.toList (bytesOf l) = l.map UInt8.ofNat := by
  rw [Go.ByteArray.toList_eq]; rfl
def codes (idx : List Nat) : List Nat := idx.map (· + 48)
theorem codes_ne {idx : List Nat} (h : idx ≠ []) (hi : ∀ k ∈ idx, k < 10) : (ByteArray.toList (bytesOf (codes idx)) == ByteArray.toList (bytesOf [45])) = false ∧ (ByteArray.toList (bytesOf (codes idx)) == ByteArray.toList (bytesOf [])) = false := by
  rw [bytesOf_toList, bytesOf_toList, bytesOf_toList]
  cases idx with
  | nil => exact absurd rfl h
  | cons x r =>
    have hx := hi x (List.mem_cons_self)
    constructor
    · rw [beq_eq_false_iff_ne]
      intro e
      have h1 : UInt8.ofNat (x + 48) = UInt8.ofNat 45 := by injection e
      have h2 := congrArg UInt8.toNat h1
      rw [UInt8.toNat_ofNat', UInt8.toNat_ofNat'] at h2
      omega
    · rfl
theorem order_step {X : List Int} {idx : List Nat} (hX : X.length ≤ 1000) (hi : ∀ k ∈ idx, k < 10 ∧ k < X.length) (hl : idx.length ≤ 100) {j : Nat} (hj : j < idx.length) :
    r9_tells_L1_pass (X, bytesOf (codes idx), j, (j : Int), (idx.take j).map fun k => X.getD k 0) = some (.inl (X, bytesOf (codes idx), j + 1, ((j + 1 : Nat) : Int), (idx.take (j + 1)).map fun k => X.getD k 0)) := by
  have hne : idx ≠ [] := by rintro rfl; simp at hj
  have hs : (bytesOf (codes idx)).size = idx.length := by
    show (List.map UInt8.ofNat (codes idx)).toArray.size = _
    simp [codes]
  have m1 : r9_tells_M1 (bytesOf (codes idx)) (j : Int) = some (.inl ()) := by
    unfold r9_tells_M1 r9_tells_M1_t
    rw [hs, decide_eq_true (show (j : Int) < (idx.length : Int) by omega), (codes_ne hne (fun k hk => (hi k hk).1)).1]
    rfl
  obtain ⟨h10, hx⟩ := hi idx[j] (List.getElem_mem hj)
  have hg : List.getD (Array.toList (ByteArray.data (bytesOf (codes idx)))) j (UInt8.ofNat (nat_lit 0)) = UInt8.ofNat (idx[j] + 48) := by
    show List.getD (List.map UInt8.ofNat (codes idx)) j _ = _
    unfold codes
    rw [List.getD_eq_getElem?_getD, List.map_map, List.getElem?_map, List.getElem?_eq_getElem hj]
    rfl
  have hw : IntKind.wrap IntKind.i64 (IntKind.wrap IntKind.u8 (((UInt8.ofNat (idx[j] + 48)).toNat : Int) - 48)) = (idx[j] : Int) := by
    have u8 : ∀ y : Int, IntKind.wrap IntKind.u8 y = y % 256 := fun y => IntKind.wrap_u8 y
    rw [UInt8.toNat_ofNat', u8, wi, W_of ⟨by omega, by omega⟩]
    omega
  have w2 : IntKind.wrap IntKind.i64 ((j : Int) + 1) = ((j + 1 : Nat) : Int) := by rw [wi, W_of ⟨by omega, by omega⟩]; omega
  unfold r9_tells_L1_pass r9_tells_L1_t
  simp only
  rw [m1]
  simp only [outOf_some, sumOf]
  rw [hs, decide_eq_true (show (0 : Int) ≤ j ∧ (j : Int) < (idx.length : Int) by omega), Int.toNat_natCast, hg, hw, decide_eq_true (show (0 : Int) ≤ (idx[j] : Int) ∧ (idx[j] : Int) < (X.length : Int) by omega), w2, Int.toNat_natCast]
  simp only [cond_true, List.length_singleton, List.drop_zero]
  rw [decide_eq_true (show j + 1 ≤ 2147483648 by omega)]
  have ht : (List.map (fun k => X.getD k 0) (idx.take j)).take j ++ [X.getD idx[j] 0] = (idx.take (j + 1)).map fun k => X.getD k 0 := by
    rw [List.take_of_length_le (by simp; omega), List.take_add_one, List.getElem?_eq_getElem hj, List.map_append]
    rfl
  rw [ht]
  rfl
theorem order_tells {k : Int} {X : List Int} {idx : List Nat} (hk : r9_order k = some (bytesOf (codes idx))) (hX : X.length ≤ 1000) (h0 : idx ≠ []) (hi : ∀ k ∈ idx, k < 10 ∧ k < X.length) (hl : idx.length ≤ 100) :
    r9_tells k X = some (idx.map fun k => X.getD k 0, 0) := by
  unfold r9_tells r9_tells_t
  rw [hk]
  simp only [outOf_some]
  rw [(codes_ne h0 (fun k hk => (hi k hk).1)).2]
  have hs : (bytesOf (codes idx)).size = idx.length := by
    show (List.map UInt8.ofNat (codes idx)).toArray.size = _
    simp [codes]
  have lp : r9_tells_L1 (X, bytesOf (codes idx), 0, 0, []) = some (idx.length, idx.map fun k => X.getD k 0) := by
    unfold r9_tells_L1
    refine runs_all (fun j : Nat => ((X, bytesOf (codes idx), j, (j : Int), (idx.take j).map fun k => X.getD k 0) : r9_tells_L1_D)) idx.length (fun j hj => order_step hX hi hl hj) ?_
    show r9_tells_L1_pass (X, bytesOf (codes idx), idx.length, (idx.length : Int), (idx.take idx.length).map fun k => X.getD k 0) = _
    have m1 : r9_tells_M1 (bytesOf (codes idx)) (idx.length : Int) = some (.inr ()) := by
      unfold r9_tells_M1 r9_tells_M1_t
      rw [hs, decide_eq_false (by omega)]; rfl
    unfold r9_tells_L1_pass r9_tells_L1_t
    simp only
    rw [m1, List.take_length]
    rfl
  rw [lp]
  simp only [outOf_some, Bool.not_false, cond_true, List.drop_zero]
  rw [List.take_of_length_le (by simp)]
theorem none_tells {k : Int} {X : List Int} (hk : r9_order k = some (bytesOf [45])) : r9_tells k X = some ([], 0) := by
  unfold r9_tells r9_tells_t
  rw [hk]
  have e0 : (ByteArray.toList (bytesOf [45]) == ByteArray.toList (bytesOf [])) = false := by rw [bytesOf_toList, bytesOf_toList]; rfl
  have e1 : (ByteArray.toList (bytesOf [45]) == ByteArray.toList (bytesOf [45])) = true := by rw [bytesOf_toList]; exact beq_self_eq_true _
  have m1 : r9_tells_M1 (bytesOf [45]) 0 = some (.inr ()) := by
    unfold r9_tells_M1 r9_tells_M1_t
    rw [e1]
    rfl
  have lp : r9_tells_L1 (X, bytesOf [45], 0, 0, []) = some (0, []) := by
    unfold r9_tells_L1
    refine runs_out ?_
    unfold r9_tells_L1_pass r9_tells_L1_t
    simp only
    rw [m1]
    rfl
  simp only [outOf_some]
  rw [e0, lp]
  rfl
theorem rt_18 (a : Int) : r9_tells 18 [a] = some ([a, a], 0) := order_tells (idx := [0, 0]) (by kernel_rfl) (by simp) (by simp) (by simp) (by simp)
theorem rt_19 (a : Int) : r9_tells 19 [a] = some ([], 0) := none_tells (by kernel_rfl)
theorem rt_26 (a b : Int) : r9_tells 26 [a, b] = some ([], 0) := none_tells (by kernel_rfl)
theorem rt_20 (a b : Int) : r9_tells 20 [a, b] = some ([b, a], 0) := order_tells (idx := [1, 0]) (by kernel_rfl) (by simp) (by simp) (by simp) (by simp)
theorem rt_21 (a b : Int) : r9_tells 21 [a, b] = some ([a, b, a], 0) := order_tells (idx := [0, 1, 0]) (by kernel_rfl) (by simp) (by simp) (by simp) (by simp)
theorem rt_22 (a b c : Int) : r9_tells 22 [a, b, c] = some ([b, c, a], 0) := order_tells (idx := [1, 2, 0]) (by kernel_rfl) (by simp) (by simp) (by simp) (by simp)
theorem rt_23 (a b : Int) : r9_tells 23 [a, b] = some ([b], 0) := order_tells (idx := [1]) (by kernel_rfl) (by simp) (by simp) (by simp) (by simp)
theorem rt_24 (a b : Int) : r9_tells 24 [a, b] = some ([b, a, b], 0) := order_tells (idx := [1, 0, 1]) (by kernel_rfl) (by simp) (by simp) (by simp) (by simp)
theorem rt_25 (a b : Int) : r9_tells 25 [a, b] = some ([a, b, a, b], 0) := order_tells (idx := [0, 1, 0, 1]) (by kernel_rfl) (by simp) (by simp) (by simp) (by simp)
theorem rt_27 (a b c d : Int) : r9_tells 27 [a, b, c, d] = some ([c, d, a, b], 0) := order_tells (idx := [2, 3, 0, 1]) (by kernel_rfl) (by simp) (by simp) (by simp) (by simp)
theorem rt_28 (a b c d : Int) : r9_tells 28 [a, b, c, d] = some ([a, b, c, d, a, b], 0) := order_tells (idx := [0, 1, 2, 3, 0, 1]) (by kernel_rfl) (by simp) (by simp) (by simp) (by simp)
end Go.Proofs.Dbl

/- Plain facts: what the document's operations of one cell, and of two, tell. -/
namespace Go.Proofs.Dbl
open Go Go.TX Go.Proofs
set_option maxRecDepth 100000
set_option maxHeartbeats 0
set_option linter.unusedVariables false
set_option linter.unusedSimpArgs false
theorem nil_eq : (ByteArray.toList (bytesOf []) == ByteArray.toList (bytesOf [])) = true := by rw [bytesOf_toList]; rfl
theorem one_tells {k : Int} {a v : Int} (ho : r9_order k = some (bytesOf [])) (hl : r7_Leaves k = some (1, true)) (hn : r7_Needs k = some 1) (h : r9_one k a = some v) : r9_tells k [a] = some ([v], 0) := by
  have m3 : r9_tells_M3 k [a] 1 = some (.inl ([v], 0)) := by
    unfold r9_tells_M3 r9_tells_M3_t r9_tells_M2 r9_tells_M2_t
    rw [hn]
    show (cond (decide ((0 : Int) ≤ 0 ∧ (0 : Int) < (([a] : List Int).length : Int))) (outOf (r9_one k a) fun x42 => (some (Sum.inl ([x42], 0)) : Option r9_tells_M3_R)) none : Option r9_tells_M3_R) = _
    rw [h]
    rfl
  unfold r9_tells r9_tells_t
  rw [ho]
  simp only [outOf_some]
  rw [nil_eq, hl]
  simp only [outOf_some, Bool.not_true, cond_false]
  rw [m3]
  rfl
theorem two_tells {k : Int} {a b v e : Int} (ho : r9_order k = some (bytesOf [])) (hl : r7_Leaves k = some (1, true)) (hn : r7_Needs k = some 2) (h : r9_two k a b = some (v, e)) : r9_tells k [a, b] = some ([v], e) := by
  have m3 : r9_tells_M3 k [a, b] 1 = some (.inr ()) := by
    unfold r9_tells_M3 r9_tells_M3_t r9_tells_M2 r9_tells_M2_t
    rw [hn]
    rfl
  have m4 : r9_tells_M4 k 1 = some true := by
    unfold r9_tells_M4 r9_tells_M4_t
    rw [hn]
    rfl
  unfold r9_tells r9_tells_t
  rw [ho]
  simp only [outOf_some]
  rw [nil_eq, hl]
  simp only [outOf_some, Bool.not_true, cond_false]
  rw [m3]
  simp only [outOf_some, sumOf]
  rw [m4]
  show (cond (decide ((0 : Int) ≤ 0 ∧ (0 : Int) < (([a, b] : List Int).length : Int))) (cond (decide ((0 : Int) ≤ 1 ∧ (1 : Int) < (([a, b] : List Int).length : Int))) (outOf (r9_two k a b) fun x72 => (some ([x72.1], x72.2) : Option r9_tells_R)) none) none : Option r9_tells_R) = _
  rw [h]
  rfl
theorem more_tells {k n l : Int} {X Y : List Int} {e : Int} (ho : r9_order k = some (bytesOf [])) (hl : r7_Leaves k = some (l, true)) (hn : r7_Needs k = some n) (hc : (n == 1 && l == 1) = false ∧ (n == 2 && l == 1) = false) (h : r9_more k X = some (Y, e)) : r9_tells k X = some (Y, e) := by
  have m3 : r9_tells_M3 k X l = some (.inr ()) := by
    have m2 : r9_tells_M2 k l = some false := by
      unfold r9_tells_M2 r9_tells_M2_t
      rw [hn]
      simp only [outOf_some]
      have := hc.1
      cases h1 : n == 1
      · rfl
      · rw [h1, Bool.true_and] at this; rw [this]; rfl
    unfold r9_tells_M3 r9_tells_M3_t
    rw [m2]
    rfl
  have m4 : r9_tells_M4 k l = some false := by
    unfold r9_tells_M4 r9_tells_M4_t
    rw [hn]
    simp only [outOf_some]
    have := hc.2
    cases h1 : n == 2
    · rfl
    · rw [h1, Bool.true_and] at this; rw [this]; rfl
  unfold r9_tells r9_tells_t
  rw [ho]
  simp only [outOf_some]
  rw [nil_eq, hl]
  simp only [outOf_some, Bool.not_true, cond_false]
  rw [m3]
  simp only [outOf_some, sumOf]
  rw [m4]
  simp only [outOf_some, cond_false]
  rw [h]
  rfl
theorem rt_41 (a : Int) : r9_tells 41 [a] = some ([W (a + 1)], 0) := one_tells (by kernel_rfl) (by kernel_rfl) (by kernel_rfl) ((show r9_one 41 a = some (IntKind.wrap .i64 (a + 1)) by kernel_rfl).trans (by rw [wi]))
theorem rt_73 (a : Int) : r9_tells 73 [a] = some ([W (a + 1)], 0) := one_tells (by kernel_rfl) (by kernel_rfl) (by kernel_rfl) ((show r9_one 73 a = some (IntKind.wrap .i64 (a + 1)) by kernel_rfl).trans (by rw [wi]))
theorem rt_42 (a : Int) : r9_tells 42 [a] = some ([W (a - 1)], 0) := one_tells (by kernel_rfl) (by kernel_rfl) (by kernel_rfl) ((show r9_one 42 a = some (IntKind.wrap .i64 (a - 1)) by kernel_rfl).trans (by rw [wi]))
theorem rt_43 (a : Int) : r9_tells 43 [a] = some ([W (a * 2)], 0) := one_tells (by kernel_rfl) (by kernel_rfl) (by kernel_rfl) ((show r9_one 43 a = some (IntKind.wrap .i64 (a + a)) by kernel_rfl).trans (by rw [wi, show a + a = a * 2 by omega]))
theorem rt_45 (a : Int) : r9_tells 45 [a] = some ([W (0 - a)], 0) := one_tells (by kernel_rfl) (by kernel_rfl) (by kernel_rfl) ((show r9_one 45 a = some (IntKind.wrap .i64 (0 - a)) by kernel_rfl).trans (by rw [wi]))
theorem rt_71 (a : Int) : r9_tells 71 [a] = some ([W (a * 8)], 0) := one_tells (by kernel_rfl) (by kernel_rfl) (by kernel_rfl) ((show r9_one 71 a = some (IntKind.wrap .i64 (a * 8)) by kernel_rfl).trans (by rw [wi]))
theorem rt_72 (a : Int) : r9_tells 72 [a] = some ([W (a + 8)], 0) := one_tells (by kernel_rfl) (by kernel_rfl) (by kernel_rfl) ((show r9_one 72 a = some (IntKind.wrap .i64 (a + 8)) by kernel_rfl).trans (by rw [wi]))
theorem rt_44 {a : Int} (ha : Cell a) : r9_tells 44 [a] = some ([Int.fdiv a 2], 0) := one_tells (by kernel_rfl) (by kernel_rfl) (by kernel_rfl) ((show r9_one 44 a = outOf (r1_Floor a 2) (fun x => some x.1) by kernel_rfl).trans (by
  rw [rFloor1 ha ⟨by decide, by decide⟩]
  unfold F
  rw [if_neg (by decide), if_neg (fun h => absurd h.1 (by decide))]
  rfl))
theorem rt_46 {a : Int} (ha : Cell a) : r9_tells 46 [a] = some ([if W (0 - a) > a then W (0 - a) else a], 0) := one_tells (by kernel_rfl) (by kernel_rfl) (by kernel_rfl) ((show r9_one 46 a = cond (decide (a < 0)) (some (IntKind.wrap .i64 (0 - a))) (some a) by kernel_rfl).trans (by
  unfold Cell at ha
  by_cases h : a < 0
  · rw [decide_eq_true h, wi]
    simp only [cond_true]
    by_cases g : W (0 - a) > a
    · rw [if_pos g]
    · rw [if_neg g]
      have : W (0 - a) = a := by unfold W at g ⊢; omega
      rw [this]
  · rw [decide_eq_false h, if_neg (by unfold W; omega)]; rfl))
theorem rt_52 {a : Int} (ha : Cell a) : r9_tells 52 [a] = some ([ibits .xor .i64 (-1) a], 0) := one_tells (by kernel_rfl) (by kernel_rfl) (by kernel_rfl) ((show r9_one 52 a = some (IntKind.wrap .i64 (-1 - a)) by kernel_rfl).trans (by
  rw [xor_m1 ha, wi, W_of (by unfold Cell at *; omega)]))
theorem rt_60 (a : Int) : r9_tells 60 [a] = some ([if a == 0 then -1 else 0], 0) := one_tells (by kernel_rfl) (by kernel_rfl) (by kernel_rfl) ((show r9_one 60 a = outOf (r1_Flag (a == 0)) (fun x => some x) by kernel_rfl).trans (by rw [rFlag]; rfl))
theorem rt_61 (a : Int) : r9_tells 61 [a] = some ([if decide (a < 0) then -1 else 0], 0) := one_tells (by kernel_rfl) (by kernel_rfl) (by kernel_rfl) ((show r9_one 61 a = outOf (r1_Flag (decide (a < 0))) (fun x => some x) by kernel_rfl).trans (by rw [rFlag]; rfl))
theorem rt_74 {a : Int} (ha : Cell a) : r9_tells 74 [a] = some ([cell_Aligned a], 0) := one_tells (by kernel_rfl) (by kernel_rfl) (by kernel_rfl) ((show r9_one 74 a = outOf (r1_Aligned a) (fun x => some x) by kernel_rfl).trans (by rw [rAligned ha]; rfl))
end Go.Proofs.Dbl

/- Plain facts: what the document's operations of two cells and more tell. -/
namespace Go.Proofs.Dbl
open Go Go.TX Go.Proofs
set_option maxRecDepth 100000
set_option maxHeartbeats 0
set_option linter.unusedVariables false
set_option linter.unusedSimpArgs false
theorem rAdd_S {a b c d : Int} (ha : Cell a) (hb : Cell b) (hc : Cell c) (hd : Cell d) : ref_Add a b c d = some (Pd (S a b + S c d)) := by
  have h := rAdd (S a b) (S c d)
  have e1 := Pd_S ha hb
  have e2 := Pd_S hc hd
  obtain ⟨p1, p2⟩ := Prod.mk.inj (show (W (S a b), W (S a b / 18446744073709551616)) = (a, b) from e1)
  obtain ⟨q1, q2⟩ := Prod.mk.inj (show (W (S c d), W (S c d / 18446744073709551616)) = (c, d) from e2)
  rw [p1, p2, q1, q2] at h
  exact h
theorem rt_33 {a b : Int} (ha : Cell a) (hb : Cell b) : r9_tells 33 [a, b] = some ([W (a + b)], 0) := two_tells (by kernel_rfl) (by kernel_rfl) (by kernel_rfl) ((show r9_two 33 a b = outOf (r1_Floor a b) (fun x => some (IntKind.wrap .i64 (a + b), 0)) by kernel_rfl).trans (by rw [rFloor1 ha hb]; rw [wi]; rfl))
theorem rt_34 {a b : Int} (ha : Cell a) (hb : Cell b) : r9_tells 34 [a, b] = some ([W (a - b)], 0) := two_tells (by kernel_rfl) (by kernel_rfl) (by kernel_rfl) ((show r9_two 34 a b = outOf (r1_Floor a b) (fun x => some (IntKind.wrap .i64 (a - b), 0)) by kernel_rfl).trans (by rw [rFloor1 ha hb]; rw [wi]; rfl))
theorem rt_35 {a b : Int} (ha : Cell a) (hb : Cell b) : r9_tells 35 [a, b] = some ([W (a * b)], 0) := two_tells (by kernel_rfl) (by kernel_rfl) (by kernel_rfl) ((show r9_two 35 a b = outOf (r1_Floor a b) (fun x => some (IntKind.wrap .i64 (a * b), 0)) by kernel_rfl).trans (by rw [rFloor1 ha hb]; rw [wi]; rfl))
theorem rt_36 {a b : Int} (ha : Cell a) (hb : Cell b) : r9_tells 36 [a, b] = some ([(F a b).1], (F a b).2.2) := two_tells (by kernel_rfl) (by kernel_rfl) (by kernel_rfl) ((show r9_two 36 a b = outOf (r1_Floor a b) (fun x => some (x.1, x.2.2)) by kernel_rfl).trans (by rw [rFloor1 ha hb]; rfl))
theorem rt_37 {a b : Int} (ha : Cell a) (hb : Cell b) : r9_tells 37 [a, b] = some ([(F a b).2.1], (F a b).2.2) := two_tells (by kernel_rfl) (by kernel_rfl) (by kernel_rfl) ((show r9_two 37 a b = outOf (r1_Floor a b) (fun x => some (x.2.1, x.2.2)) by kernel_rfl).trans (by rw [rFloor1 ha hb]; rfl))
theorem rt_47 {a b : Int} (ha : Cell a) (hb : Cell b) : r9_tells 47 [a, b] = some ([if b < a then b else a], 0) := two_tells (by kernel_rfl) (by kernel_rfl) (by kernel_rfl) ((show r9_two 47 a b = outOf (r1_Floor a b) (fun x => some (if b < a then b else a, 0)) by kernel_rfl).trans (by rw [rFloor1 ha hb]; rfl))
theorem rt_48 {a b : Int} (ha : Cell a) (hb : Cell b) : r9_tells 48 [a, b] = some ([if b > a then b else a], 0) := two_tells (by kernel_rfl) (by kernel_rfl) (by kernel_rfl) ((show r9_two 48 a b = outOf (r1_Floor a b) (fun x => some (if b > a then b else a, 0)) by kernel_rfl).trans (by rw [rFloor1 ha hb]; rfl))
theorem rt_49 {a b : Int} (ha : Cell a) (hb : Cell b) : r9_tells 49 [a, b] = some ([ibits .and .i64 a b], 0) := two_tells (by kernel_rfl) (by kernel_rfl) (by kernel_rfl) ((show r9_two 49 a b = outOf (r1_Floor a b) (fun x => some (ibits .and .i64 a b, 0)) by kernel_rfl).trans (by rw [rFloor1 ha hb]; rfl))
theorem rt_50 {a b : Int} (ha : Cell a) (hb : Cell b) : r9_tells 50 [a, b] = some ([ibits .or .i64 a b], 0) := two_tells (by kernel_rfl) (by kernel_rfl) (by kernel_rfl) ((show r9_two 50 a b = outOf (r1_Floor a b) (fun x => some (ibits .or .i64 a b, 0)) by kernel_rfl).trans (by rw [rFloor1 ha hb]; rfl))
theorem rt_51 {a b : Int} (ha : Cell a) (hb : Cell b) : r9_tells 51 [a, b] = some ([ibits .xor .i64 a b], 0) := two_tells (by kernel_rfl) (by kernel_rfl) (by kernel_rfl) ((show r9_two 51 a b = outOf (r1_Floor a b) (fun x => some (ibits .xor .i64 a b, 0)) by kernel_rfl).trans (by rw [rFloor1 ha hb]; rfl))
theorem rt_53 {a b : Int} (ha : Cell a) (hb : Cell b) : r9_tells 53 [a, b] = some ([shlV a b], 0) := two_tells (by kernel_rfl) (by kernel_rfl) (by kernel_rfl) ((show r9_two 53 a b = outOf (r1_Floor a b) (fun x => outOf (r1_Shl a b) fun y => some (y, 0)) by kernel_rfl).trans (by rw [rFloor1 ha hb]; simp only [outOf_some]; rw [rShl hb]; rfl))
theorem rt_54 {a b : Int} (ha : Cell a) (hb : Cell b) : r9_tells 54 [a, b] = some ([shrV a b], 0) := two_tells (by kernel_rfl) (by kernel_rfl) (by kernel_rfl) ((show r9_two 54 a b = outOf (r1_Floor a b) (fun x => outOf (r1_Shr a b) fun y => some (y, 0)) by kernel_rfl).trans (by rw [rFloor1 ha hb]; simp only [outOf_some]; rw [rShr hb]; rfl))
theorem rt_55 {a b : Int} (ha : Cell a) (hb : Cell b) : r9_tells 55 [a, b] = some ([if a == b then -1 else 0], 0) := two_tells (by kernel_rfl) (by kernel_rfl) (by kernel_rfl) ((show r9_two 55 a b = outOf (r1_Floor a b) (fun x => outOf (r1_Flag (a == b)) fun y => some (y, 0)) by kernel_rfl).trans (by rw [rFloor1 ha hb]; simp only [outOf_some]; rw [rFlag]; rfl))
theorem rt_56 {a b : Int} (ha : Cell a) (hb : Cell b) : r9_tells 56 [a, b] = some ([if a != b then -1 else 0], 0) := two_tells (by kernel_rfl) (by kernel_rfl) (by kernel_rfl) ((show r9_two 56 a b = outOf (r1_Floor a b) (fun x => outOf (r1_Flag (a != b)) fun y => some (y, 0)) by kernel_rfl).trans (by rw [rFloor1 ha hb]; simp only [outOf_some]; rw [rFlag]; rfl))
theorem rt_57 {a b : Int} (ha : Cell a) (hb : Cell b) : r9_tells 57 [a, b] = some ([if decide (a < b) then -1 else 0], 0) := two_tells (by kernel_rfl) (by kernel_rfl) (by kernel_rfl) ((show r9_two 57 a b = outOf (r1_Floor a b) (fun x => outOf (r1_Flag (decide (a < b))) fun y => some (y, 0)) by kernel_rfl).trans (by rw [rFloor1 ha hb]; simp only [outOf_some]; rw [rFlag]; rfl))
theorem rt_58 {a b : Int} (ha : Cell a) (hb : Cell b) : r9_tells 58 [a, b] = some ([if decide (a > b) then -1 else 0], 0) := two_tells (by kernel_rfl) (by kernel_rfl) (by kernel_rfl) ((show r9_two 58 a b = outOf (r1_Floor a b) (fun x => outOf (r1_Flag (decide (a > b))) fun y => some (y, 0)) by kernel_rfl).trans (by rw [rFloor1 ha hb]; simp only [outOf_some]; rw [rFlag]; rfl))
theorem rt_59 {a b : Int} (ha : Cell a) (hb : Cell b) : r9_tells 59 [a, b] = some ([if cell_Ult a b then -1 else 0], 0) := two_tells (by kernel_rfl) (by kernel_rfl) (by kernel_rfl) ((show r9_two 59 a b = outOf (r1_Floor a b) (fun x => outOf (ref_Ult a b) fun z => outOf (r1_Flag z) fun y => some (y, 0)) by kernel_rfl).trans (by rw [rFloor1 ha hb]; simp only [outOf_some]; rw [rUlt1]; simp only [outOf_some]; rw [rFlag]; rfl))
theorem rt_38 {a b : Int} (ha : Cell a) (hb : Cell b) : r9_tells 38 [a, b] = some ([(F a b).2.1, (F a b).1], (F a b).2.2) := by
  have m1 : r9_more_M1 38 [a, b] 0 0 0 0 0 = some (.inl ((F a b).2.1, (F a b).1, (F a b).2.2, 0, 0)) := (show r9_more_M1 38 [a, b] 0 0 0 0 0 = outOf (r1_Floor a b) (fun x => some (.inl (x.2.1, x.1, x.2.2, 0, 0))) by kernel_rfl).trans (by rw [rFloor1 ha hb]; rfl)
  exact more_tells (n := 2) (l := 2) (by kernel_rfl) (by kernel_rfl) (by kernel_rfl) (by decide) (by unfold r9_more r9_more_t; rw [m1]; rfl)
theorem rt_39 {a b c : Int} (ha : Cell a) (hb : Cell b) (hc : Cell c) : r9_tells 39 [a, b, c] = some ([(Fl3 a b c).2.1], (Fl3 a b c).2.2) := by
  have m1 : r9_more_M1 39 [a, b, c] 0 0 0 0 0 = some (.inr ([(Fl3 a b c).2.1], (Fl3 a b c).2.2)) := (show r9_more_M1 39 [a, b, c] 0 0 0 0 0 = outOf (ref_Scale a b c) (fun x => some (.inr ([x.2.1], x.2.2))) by kernel_rfl).trans (by rw [rScale ha hb hc]; rfl)
  exact more_tells (n := 3) (l := 1) (by kernel_rfl) (by kernel_rfl) (by kernel_rfl) (by decide) (by unfold r9_more r9_more_t; rw [m1]; rfl)
theorem rt_40 {a b c : Int} (ha : Cell a) (hb : Cell b) (hc : Cell c) : r9_tells 40 [a, b, c] = some ([(Fl3 a b c).1, (Fl3 a b c).2.1], (Fl3 a b c).2.2) := by
  have m1 : r9_more_M1 40 [a, b, c] 0 0 0 0 0 = some (.inl ((Fl3 a b c).1, (Fl3 a b c).2.1, (Fl3 a b c).2.2, 0, 0)) := (show r9_more_M1 40 [a, b, c] 0 0 0 0 0 = outOf (ref_Scale a b c) (fun x => some (.inl (x.1, x.2.1, x.2.2, 0, 0))) by kernel_rfl).trans (by rw [rScale ha hb hc]; rfl)
  exact more_tells (n := 3) (l := 2) (by kernel_rfl) (by kernel_rfl) (by kernel_rfl) (by decide) (by unfold r9_more r9_more_t; rw [m1]; rfl)
theorem rt_62 {a b c : Int} (ha : Cell a) (hb : Cell b) (hc : Cell c) : r9_tells 62 [a, b, c] = some ([if cell_Within a b c then -1 else 0], 0) := by
  have m1 : r9_more_M1 62 [a, b, c] 0 0 0 0 0 = some (.inr ([if cell_Within a b c then -1 else 0], 0)) := (show r9_more_M1 62 [a, b, c] 0 0 0 0 0 = outOf (r1_Within a b c) (fun x => outOf (r1_Flag x) fun y => some (.inr ([y], 0))) by kernel_rfl).trans (by rw [rWithin1]; simp only [outOf_some]; rw [rFlag]; rfl)
  exact more_tells (n := 3) (l := 1) (by kernel_rfl) (by kernel_rfl) (by kernel_rfl) (by decide) (by unfold r9_more r9_more_t; rw [m1]; rfl)
theorem rt_63 {a b : Int} (ha : Cell a) (hb : Cell b) : r9_tells 63 [a, b] = some ([(dbl_UMul a b).1, (dbl_UMul a b).2], 0) := by
  have m1 : r9_more_M1 63 [a, b] 0 0 0 0 0 = some (.inl (0, 0, 0, (dbl_UMul a b).1, (dbl_UMul a b).2)) := (show r9_more_M1 63 [a, b] 0 0 0 0 0 = outOf (ref_UMul a b) (fun x => some (.inl (0, 0, 0, x.1, x.2))) by kernel_rfl).trans (by rw [rUMul ha, UMul_eq]; rfl)
  exact more_tells (n := 2) (l := 2) (by kernel_rfl) (by kernel_rfl) (by kernel_rfl) (by decide) (by unfold r9_more r9_more_t; rw [m1]; rfl)
theorem rt_64 {a b : Int} (ha : Cell a) (hb : Cell b) : r9_tells 64 [a, b] = some ([(Pd (a * b)).1, (Pd (a * b)).2], 0) := by
  have m1 : r9_more_M1 64 [a, b] 0 0 0 0 0 = some (.inl (0, 0, 0, (Pd (a * b)).1, (Pd (a * b)).2)) := (show r9_more_M1 64 [a, b] 0 0 0 0 0 = outOf (ref_Mul a b) (fun x => some (.inl (0, 0, 0, x.1, x.2))) by kernel_rfl).trans (by rw [rMul ha hb]; rfl)
  exact more_tells (n := 2) (l := 2) (by kernel_rfl) (by kernel_rfl) (by kernel_rfl) (by decide) (by unfold r9_more r9_more_t; rw [m1]; rfl)
theorem rt_65 {a b c : Int} (ha : Cell a) (hb : Cell b) (hc : Cell c) : r9_tells 65 [a, b, c] = some ([(UM a b c).1, (UM a b c).2.1], (UM a b c).2.2) := by
  have m1 : r9_more_M1 65 [a, b, c] 0 0 0 0 0 = some (.inl ((UM a b c).1, (UM a b c).2.1, (UM a b c).2.2, 0, 0)) := (show r9_more_M1 65 [a, b, c] 0 0 0 0 0 = outOf (ref_UMod a b c) (fun x => some (.inl (x.1, x.2.1, x.2.2, 0, 0))) by kernel_rfl).trans (by rw [rUMod ha hb hc]; rfl)
  exact more_tells (n := 3) (l := 2) (by kernel_rfl) (by kernel_rfl) (by kernel_rfl) (by decide) (by unfold r9_more r9_more_t; rw [m1]; rfl)
theorem rt_66 {a b c : Int} (ha : Cell a) (hb : Cell b) (hc : Cell c) : r9_tells 66 [a, b, c] = some ([(FlD a b c).1, (FlD a b c).2.1], (FlD a b c).2.2) := by
  have m1 : r9_more_M1 66 [a, b, c] 0 0 0 0 0 = some (.inl ((FlD a b c).1, (FlD a b c).2.1, (FlD a b c).2.2, 0, 0)) := (show r9_more_M1 66 [a, b, c] 0 0 0 0 0 = outOf (ref_Floor a b c) (fun x => some (.inl (x.1, x.2.1, x.2.2, 0, 0))) by kernel_rfl).trans (by rw [rFloor ha hb hc]; rfl)
  exact more_tells (n := 3) (l := 2) (by kernel_rfl) (by kernel_rfl) (by kernel_rfl) (by decide) (by unfold r9_more r9_more_t; rw [m1]; rfl)
theorem rt_67 {a b c : Int} (ha : Cell a) (hb : Cell b) (hc : Cell c) : r9_tells 67 [a, b, c] = some ([(Sy a b c).1, (Sy a b c).2.1], (Sy a b c).2.2) := by
  have m1 : r9_more_M1 67 [a, b, c] 0 0 0 0 0 = some (.inl ((Sy a b c).1, (Sy a b c).2.1, (Sy a b c).2.2, 0, 0)) := (show r9_more_M1 67 [a, b, c] 0 0 0 0 0 = outOf (ref_Symm a b c) (fun x => some (.inl (x.1, x.2.1, x.2.2, 0, 0))) by kernel_rfl).trans (by rw [rSymm ha hb hc]; rfl)
  exact more_tells (n := 3) (l := 2) (by kernel_rfl) (by kernel_rfl) (by kernel_rfl) (by decide) (by unfold r9_more r9_more_t; rw [m1]; rfl)
theorem rt_68 {a : Int} (ha : Cell a) : r9_tells 68 [a] = some ([(dbl_Of a).1, (dbl_Of a).2], 0) := by
  have m1 : r9_more_M1 68 [a] 0 0 0 0 0 = some (.inl (0, 0, 0, (dbl_Of a).1, (dbl_Of a).2)) := (show r9_more_M1 68 [a] 0 0 0 0 0 = outOf (ref_Of a) (fun x => some (.inl (0, 0, 0, x.1, x.2))) by kernel_rfl).trans (by rw [rOf ha, Of_eq ha]; rfl)
  exact more_tells (n := 1) (l := 2) (by kernel_rfl) (by kernel_rfl) (by kernel_rfl) (by decide) (by unfold r9_more r9_more_t; rw [m1]; rfl)
theorem rt_69 {a b c d : Int} (ha : Cell a) (hb : Cell b) (hc : Cell c) (hd : Cell d) : r9_tells 69 [a, b, c, d] = some ([(Pd (S a b + S c d)).1, (Pd (S a b + S c d)).2], 0) := by
  have m1 : r9_more_M1 69 [a, b, c, d] 0 0 0 0 0 = some (.inl (0, 0, 0, (Pd (S a b + S c d)).1, (Pd (S a b + S c d)).2)) := (show r9_more_M1 69 [a, b, c, d] 0 0 0 0 0 = outOf (ref_Add a b c d) (fun x => some (.inl (0, 0, 0, x.1, x.2))) by kernel_rfl).trans (by rw [rAdd_S ha hb hc hd]; rfl)
  exact more_tells (n := 4) (l := 2) (by kernel_rfl) (by kernel_rfl) (by kernel_rfl) (by decide) (by unfold r9_more r9_more_t; rw [m1]; rfl)
theorem rt_70 {a b : Int} (ha : Cell a) (hb : Cell b) : r9_tells 70 [a, b] = some ([(Pd (-S a b)).1, (Pd (-S a b)).2], 0) := by
  have m1 : r9_more_M1 70 [a, b] 0 0 0 0 0 = some (.inl (0, 0, 0, (Pd (-S a b)).1, (Pd (-S a b)).2)) := (show r9_more_M1 70 [a, b] 0 0 0 0 0 = outOf (ref_Neg a b) (fun x => some (.inl (0, 0, 0, x.1, x.2))) by kernel_rfl).trans (by rw [neg_of ha hb]; rfl)
  exact more_tells (n := 2) (l := 2) (by kernel_rfl) (by kernel_rfl) (by kernel_rfl) (by decide) (by unfold r9_more r9_more_t; rw [m1]; rfl)
end Go.Proofs.Dbl

/- Plain facts: an operation, by the document, is the program's. -/
namespace Go.Proofs.Dbl
open Go Go.TX Go.Proofs
set_option maxRecDepth 100000
set_option maxHeartbeats 0
set_option linter.unusedVariables false
set_option linter.unusedSimpArgs false
theorem do_of_tells {k n : Nat} {r X Y : List Int} {e : Int} (h1 : 18 ≤ k) (h2 : k ≤ 74) (h3 : k < 29 ∨ 32 < k) (hn : need k = n) (hX : X.length = n) (hr : r.length + n ≤ 64) (ht : r9_tells (k : Int) X = some (Y, e)) (hY : Y.length = leavs k) (hy : Y.length ≤ 100) (he : e ≠ 0 → Y.length ≤ n) :
    r9_Do (k : Int) (r ++ X) = some (fin r X Y e) := by
  unfold r9_Do r9_Do_t
  rw [rgroup_1 h1 h2]
  simp only [outOf_some]
  rw [rneeds h1 h2, hn, rleaves h1 h2 (by omega)]
  have hlen : (r ++ X).length = r.length + n := by simp [hX]
  have m1 : r9_Do_M2 (k : Int) (r ++ X) = some (.inr ()) := by
    unfold r9_Do_M2 r9_Do_M2_t r9_Do_M1 r9_Do_M1_t
    by_cases h : (k : Int) ≥ 29
    · rw [decide_eq_true h, decide_eq_false (by omega)]; rfl
    · rw [decide_eq_false h]; rfl
  rw [m1]
  have e1 : ((1 : Int) != 1) = false := rfl
  simp only [outOf_some, sumOf]
  rw [e1, hlen]
  simp only [cond_false]
  have hp : IntKind.wrap IntKind.i64 (((r.length + n : Nat) : Int) - (n : Int)) = (r.length : Int) := by rw [wi, W_of ⟨by omega, by omega⟩]; omega
  rw [hp, decide_eq_false (show ¬ ((r.length + n : Nat) : Int) < (n : Int) by omega), decide_eq_false (show ¬ ((r.length + n : Nat) : Int) > 64 by omega), decide_eq_false (show ¬ (n : Int) < 0 by omega),
    decide_eq_true (show (0 : Int) ≤ 0 ∧ (0 : Int) ≤ (r.length : Int) ∧ (r.length : Int) ≤ ((r.length + n : Nat) : Int) by omega),
    decide_eq_true (show (0 : Int) ≤ (r.length : Int) ∧ (r.length : Int) ≤ ((r.length + n : Nat) : Int) ∧ ((r.length + n : Nat) : Int) ≤ ((r.length + n : Nat) : Int) by omega)]
  simp only [cond_false, cond_true, Int.toNat_natCast, Nat.sub_zero, List.drop_zero]
  have hT : List.take r.length (r ++ X) = r := List.take_left
  have hD : List.drop r.length (r ++ X) = X := List.drop_left
  have hnn : r.length + n - r.length = n := by omega
  have hXX : List.take n X = X := List.take_of_length_le (by omega)
  have hTr : List.take r.length r = r := List.take_length
  have hTX : List.take X.length X = X := List.take_length
  simp only [hT, hD, hnn, hXX, hTr, hTX]
  rw [decide_eq_true (show r.length ≤ 2147483648 by omega), decide_eq_true (show X.length ≤ 2147483648 by omega), ht]
  simp only [cond_true, outOf_some]
  have hw : IntKind.wrap IntKind.i64 ((r.length : Int) + (leavs k : Int)) = ((r.length + Y.length : Nat) : Int) := by rw [wi, ← hY, W_of ⟨by omega, by omega⟩]; omega
  rw [hw]
  unfold fin
  by_cases g : 64 < r.length + Y.length
  · have e0 : e = 0 := Decidable.byContradiction fun h => by have := he h; omega
    rw [decide_eq_true (by omega), if_neg (fun h => h e0), if_pos g]; rfl
  · rw [decide_eq_false (by omega)]
    by_cases e0 : e = 0
    · rw [if_neg (fun h => h e0), if_neg g, bne_eq_false_iff_eq.2 e0, decide_eq_true (by omega)]
      simp only [cond_true, cond_false]
      rw [List.take_of_length_le (by simp)]
    · rw [if_pos e0, bne_iff_ne.2 e0]; rfl
end Go.Proofs.Dbl

/- Plain facts: operation by operation, the document's Do is the program's. -/
namespace Go.Proofs.Dbl
open Go Go.TX Go.Proofs
set_option maxRecDepth 100000
set_option maxHeartbeats 0
set_option linter.unusedVariables false
set_option linter.unusedSimpArgs false
/-- With enough cells, and room, they do the same. -/
def Sm (k : Nat) : Prop := ∀ X : List Int, X.length = need k → AllC X → ∀ r : List Int, r.length + need k ≤ 64 → r9_Do (k : Int) (r ++ X) = Do_tab k (r ++ X)
theorem sm_18 : Sm 18 := fun X hX hc r hr => match X, hX, hc with | [a], _, ⟨ha, _⟩ => (do_of_tells (k := 18) (n := 1) (by omega) (by omega) (by omega) rfl rfl hr (rt_18 a) rfl (by simp) (fun h => absurd rfl h)).trans (dk_18 hr).symm
theorem sm_19 : Sm 19 := fun X hX hc r hr => match X, hX, hc with | [a], _, ⟨ha, _⟩ => (do_of_tells (k := 19) (n := 1) (by omega) (by omega) (by omega) rfl rfl hr (rt_19 a) rfl (by simp) (fun h => absurd rfl h)).trans (dk_19 hr).symm
theorem sm_20 : Sm 20 := fun X hX hc r hr => match X, hX, hc with | [a, b], _, ⟨ha, hb, _⟩ => (do_of_tells (k := 20) (n := 2) (by omega) (by omega) (by omega) rfl rfl hr (rt_20 a b) rfl (by simp) (fun h => absurd rfl h)).trans (dk_20 hr).symm
theorem sm_21 : Sm 21 := fun X hX hc r hr => match X, hX, hc with | [a, b], _, ⟨ha, hb, _⟩ => (do_of_tells (k := 21) (n := 2) (by omega) (by omega) (by omega) rfl rfl hr (rt_21 a b) rfl (by simp) (fun h => absurd rfl h)).trans (dk_21 hr).symm
theorem sm_22 : Sm 22 := fun X hX hc r hr => match X, hX, hc with | [a, b, c], _, ⟨ha, hb, hc, _⟩ => (do_of_tells (k := 22) (n := 3) (by omega) (by omega) (by omega) rfl rfl hr (rt_22 a b c) rfl (by simp) (fun h => absurd rfl h)).trans (dk_22 hr).symm
theorem sm_23 : Sm 23 := fun X hX hc r hr => match X, hX, hc with | [a, b], _, ⟨ha, hb, _⟩ => (do_of_tells (k := 23) (n := 2) (by omega) (by omega) (by omega) rfl rfl hr (rt_23 a b) rfl (by simp) (fun h => absurd rfl h)).trans (dk_23 hr).symm
theorem sm_24 : Sm 24 := fun X hX hc r hr => match X, hX, hc with | [a, b], _, ⟨ha, hb, _⟩ => (do_of_tells (k := 24) (n := 2) (by omega) (by omega) (by omega) rfl rfl hr (rt_24 a b) rfl (by simp) (fun h => absurd rfl h)).trans (dk_24 hr).symm
theorem sm_25 : Sm 25 := fun X hX hc r hr => match X, hX, hc with | [a, b], _, ⟨ha, hb, _⟩ => (do_of_tells (k := 25) (n := 2) (by omega) (by omega) (by omega) rfl rfl hr (rt_25 a b) rfl (by simp) (fun h => absurd rfl h)).trans (dk_25 hr).symm
theorem sm_26 : Sm 26 := fun X hX hc r hr => match X, hX, hc with | [a, b], _, ⟨ha, hb, _⟩ => (do_of_tells (k := 26) (n := 2) (by omega) (by omega) (by omega) rfl rfl hr (rt_26 a b) rfl (by simp) (fun h => absurd rfl h)).trans (dk_26 hr).symm
theorem sm_27 : Sm 27 := fun X hX hc r hr => match X, hX, hc with | [a, b, c, d], _, ⟨ha, hb, hc, hd, _⟩ => (do_of_tells (k := 27) (n := 4) (by omega) (by omega) (by omega) rfl rfl hr (rt_27 a b c d) rfl (by simp) (fun h => absurd rfl h)).trans (dk_27 hr).symm
theorem sm_28 : Sm 28 := fun X hX hc r hr => match X, hX, hc with | [a, b, c, d], _, ⟨ha, hb, hc, hd, _⟩ => (do_of_tells (k := 28) (n := 4) (by omega) (by omega) (by omega) rfl rfl hr (rt_28 a b c d) rfl (by simp) (fun h => absurd rfl h)).trans (dk_28 hr).symm
theorem sm_33 : Sm 33 := fun X hX hc r hr => match X, hX, hc with | [a, b], _, ⟨ha, hb, _⟩ => (do_of_tells (k := 33) (n := 2) (by omega) (by omega) (by omega) rfl rfl hr (rt_33 ha hb) rfl (by simp) (fun h => absurd rfl h)).trans (dk_33 hr).symm
theorem sm_34 : Sm 34 := fun X hX hc r hr => match X, hX, hc with | [a, b], _, ⟨ha, hb, _⟩ => (do_of_tells (k := 34) (n := 2) (by omega) (by omega) (by omega) rfl rfl hr (rt_34 ha hb) rfl (by simp) (fun h => absurd rfl h)).trans (dk_34 hr).symm
theorem sm_35 : Sm 35 := fun X hX hc r hr => match X, hX, hc with | [a, b], _, ⟨ha, hb, _⟩ => (do_of_tells (k := 35) (n := 2) (by omega) (by omega) (by omega) rfl rfl hr (rt_35 ha hb) rfl (by simp) (fun h => absurd rfl h)).trans (dk_35 hr).symm
theorem sm_36 : Sm 36 := fun X hX hc r hr => match X, hX, hc with | [a, b], _, ⟨ha, hb, _⟩ => (do_of_tells (k := 36) (n := 2) (by omega) (by omega) (by omega) rfl rfl hr (rt_36 ha hb) rfl (by simp) (fun _ => by simp)).trans (dk_36 hr ha hb).symm
theorem sm_37 : Sm 37 := fun X hX hc r hr => match X, hX, hc with | [a, b], _, ⟨ha, hb, _⟩ => (do_of_tells (k := 37) (n := 2) (by omega) (by omega) (by omega) rfl rfl hr (rt_37 ha hb) rfl (by simp) (fun _ => by simp)).trans (dk_37 hr ha hb).symm
theorem sm_38 : Sm 38 := fun X hX hc r hr => match X, hX, hc with | [a, b], _, ⟨ha, hb, _⟩ => (do_of_tells (k := 38) (n := 2) (by omega) (by omega) (by omega) rfl rfl hr (rt_38 ha hb) rfl (by simp) (fun _ => by simp)).trans (dk_38 hr ha hb).symm
theorem sm_39 : Sm 39 := fun X hX hc r hr => match X, hX, hc with | [a, b, c], _, ⟨ha, hb, hc, _⟩ => (do_of_tells (k := 39) (n := 3) (by omega) (by omega) (by omega) rfl rfl hr (rt_39 ha hb hc) rfl (by simp) (fun _ => by simp)).trans (dk_39 hr ha hb hc).symm
theorem sm_40 : Sm 40 := fun X hX hc r hr => match X, hX, hc with | [a, b, c], _, ⟨ha, hb, hc, _⟩ => (do_of_tells (k := 40) (n := 3) (by omega) (by omega) (by omega) rfl rfl hr (rt_40 ha hb hc) rfl (by simp) (fun _ => by simp)).trans (dk_40 hr ha hb hc).symm
theorem sm_41 : Sm 41 := fun X hX hc r hr => match X, hX, hc with | [a], _, ⟨ha, _⟩ => (do_of_tells (k := 41) (n := 1) (by omega) (by omega) (by omega) rfl rfl hr (rt_41 a) rfl (by simp) (fun h => absurd rfl h)).trans (dk_41 hr).symm
theorem sm_42 : Sm 42 := fun X hX hc r hr => match X, hX, hc with | [a], _, ⟨ha, _⟩ => (do_of_tells (k := 42) (n := 1) (by omega) (by omega) (by omega) rfl rfl hr (rt_42 a) rfl (by simp) (fun h => absurd rfl h)).trans (dk_42 hr).symm
theorem sm_43 : Sm 43 := fun X hX hc r hr => match X, hX, hc with | [a], _, ⟨ha, _⟩ => (do_of_tells (k := 43) (n := 1) (by omega) (by omega) (by omega) rfl rfl hr (rt_43 a) rfl (by simp) (fun h => absurd rfl h)).trans (dk_43 hr).symm
theorem sm_44 : Sm 44 := fun X hX hc r hr => match X, hX, hc with | [a], _, ⟨ha, _⟩ => (do_of_tells (k := 44) (n := 1) (by omega) (by omega) (by omega) rfl rfl hr (rt_44 ha) rfl (by simp) (fun h => absurd rfl h)).trans (dk_44 hr).symm
theorem sm_45 : Sm 45 := fun X hX hc r hr => match X, hX, hc with | [a], _, ⟨ha, _⟩ => (do_of_tells (k := 45) (n := 1) (by omega) (by omega) (by omega) rfl rfl hr (rt_45 a) rfl (by simp) (fun h => absurd rfl h)).trans (dk_45 hr).symm
theorem sm_46 : Sm 46 := fun X hX hc r hr => match X, hX, hc with | [a], _, ⟨ha, _⟩ => (do_of_tells (k := 46) (n := 1) (by omega) (by omega) (by omega) rfl rfl hr (rt_46 ha) rfl (by simp) (fun h => absurd rfl h)).trans (dk_46 hr).symm
theorem sm_47 : Sm 47 := fun X hX hc r hr => match X, hX, hc with | [a, b], _, ⟨ha, hb, _⟩ => (do_of_tells (k := 47) (n := 2) (by omega) (by omega) (by omega) rfl rfl hr (rt_47 ha hb) rfl (by simp) (fun h => absurd rfl h)).trans (dk_47 hr).symm
theorem sm_48 : Sm 48 := fun X hX hc r hr => match X, hX, hc with | [a, b], _, ⟨ha, hb, _⟩ => (do_of_tells (k := 48) (n := 2) (by omega) (by omega) (by omega) rfl rfl hr (rt_48 ha hb) rfl (by simp) (fun h => absurd rfl h)).trans (dk_48 hr).symm
theorem sm_49 : Sm 49 := fun X hX hc r hr => match X, hX, hc with | [a, b], _, ⟨ha, hb, _⟩ => (do_of_tells (k := 49) (n := 2) (by omega) (by omega) (by omega) rfl rfl hr (rt_49 ha hb) rfl (by simp) (fun h => absurd rfl h)).trans (dk_49 hr).symm
theorem sm_50 : Sm 50 := fun X hX hc r hr => match X, hX, hc with | [a, b], _, ⟨ha, hb, _⟩ => (do_of_tells (k := 50) (n := 2) (by omega) (by omega) (by omega) rfl rfl hr (rt_50 ha hb) rfl (by simp) (fun h => absurd rfl h)).trans (dk_50 hr).symm
theorem sm_51 : Sm 51 := fun X hX hc r hr => match X, hX, hc with | [a, b], _, ⟨ha, hb, _⟩ => (do_of_tells (k := 51) (n := 2) (by omega) (by omega) (by omega) rfl rfl hr (rt_51 ha hb) rfl (by simp) (fun h => absurd rfl h)).trans (dk_51 hr).symm
theorem sm_52 : Sm 52 := fun X hX hc r hr => match X, hX, hc with | [a], _, ⟨ha, _⟩ => (do_of_tells (k := 52) (n := 1) (by omega) (by omega) (by omega) rfl rfl hr (rt_52 ha) rfl (by simp) (fun h => absurd rfl h)).trans (dk_52 hr).symm
theorem sm_53 : Sm 53 := fun X hX hc r hr => match X, hX, hc with | [a, b], _, ⟨ha, hb, _⟩ => (do_of_tells (k := 53) (n := 2) (by omega) (by omega) (by omega) rfl rfl hr (rt_53 ha hb) rfl (by simp) (fun h => absurd rfl h)).trans (dk_53 hr hb).symm
theorem sm_54 : Sm 54 := fun X hX hc r hr => match X, hX, hc with | [a, b], _, ⟨ha, hb, _⟩ => (do_of_tells (k := 54) (n := 2) (by omega) (by omega) (by omega) rfl rfl hr (rt_54 ha hb) rfl (by simp) (fun h => absurd rfl h)).trans (dk_54 hr hb).symm
theorem sm_55 : Sm 55 := fun X hX hc r hr => match X, hX, hc with | [a, b], _, ⟨ha, hb, _⟩ => (do_of_tells (k := 55) (n := 2) (by omega) (by omega) (by omega) rfl rfl hr (rt_55 ha hb) rfl (by simp) (fun h => absurd rfl h)).trans (dk_55 hr).symm
theorem sm_56 : Sm 56 := fun X hX hc r hr => match X, hX, hc with | [a, b], _, ⟨ha, hb, _⟩ => (do_of_tells (k := 56) (n := 2) (by omega) (by omega) (by omega) rfl rfl hr (rt_56 ha hb) rfl (by simp) (fun h => absurd rfl h)).trans (dk_56 hr).symm
theorem sm_57 : Sm 57 := fun X hX hc r hr => match X, hX, hc with | [a, b], _, ⟨ha, hb, _⟩ => (do_of_tells (k := 57) (n := 2) (by omega) (by omega) (by omega) rfl rfl hr (rt_57 ha hb) rfl (by simp) (fun h => absurd rfl h)).trans (dk_57 hr).symm
theorem sm_58 : Sm 58 := fun X hX hc r hr => match X, hX, hc with | [a, b], _, ⟨ha, hb, _⟩ => (do_of_tells (k := 58) (n := 2) (by omega) (by omega) (by omega) rfl rfl hr (rt_58 ha hb) rfl (by simp) (fun h => absurd rfl h)).trans (dk_58 hr).symm
theorem sm_59 : Sm 59 := fun X hX hc r hr => match X, hX, hc with | [a, b], _, ⟨ha, hb, _⟩ => (do_of_tells (k := 59) (n := 2) (by omega) (by omega) (by omega) rfl rfl hr (rt_59 ha hb) rfl (by simp) (fun h => absurd rfl h)).trans (dk_59 hr).symm
theorem sm_60 : Sm 60 := fun X hX hc r hr => match X, hX, hc with | [a], _, ⟨ha, _⟩ => (do_of_tells (k := 60) (n := 1) (by omega) (by omega) (by omega) rfl rfl hr (rt_60 a) rfl (by simp) (fun h => absurd rfl h)).trans (dk_60 hr).symm
theorem sm_61 : Sm 61 := fun X hX hc r hr => match X, hX, hc with | [a], _, ⟨ha, _⟩ => (do_of_tells (k := 61) (n := 1) (by omega) (by omega) (by omega) rfl rfl hr (rt_61 a) rfl (by simp) (fun h => absurd rfl h)).trans (dk_61 hr).symm
theorem sm_62 : Sm 62 := fun X hX hc r hr => match X, hX, hc with | [a, b, c], _, ⟨ha, hb, hc, _⟩ => (do_of_tells (k := 62) (n := 3) (by omega) (by omega) (by omega) rfl rfl hr (rt_62 ha hb hc) rfl (by simp) (fun h => absurd rfl h)).trans (dk_62 hr).symm
theorem sm_63 : Sm 63 := fun X hX hc r hr => match X, hX, hc with | [a, b], _, ⟨ha, hb, _⟩ => (do_of_tells (k := 63) (n := 2) (by omega) (by omega) (by omega) rfl rfl hr (rt_63 ha hb) rfl (by simp) (fun h => absurd rfl h)).trans (dk_63 hr).symm
theorem sm_64 : Sm 64 := fun X hX hc r hr => match X, hX, hc with | [a, b], _, ⟨ha, hb, _⟩ => (do_of_tells (k := 64) (n := 2) (by omega) (by omega) (by omega) rfl rfl hr (rt_64 ha hb) rfl (by simp) (fun h => absurd rfl h)).trans (dk_64 hr ha hb).symm
theorem sm_65 : Sm 65 := fun X hX hc r hr => match X, hX, hc with | [a, b, c], _, ⟨ha, hb, hc, _⟩ => (do_of_tells (k := 65) (n := 3) (by omega) (by omega) (by omega) rfl rfl hr (rt_65 ha hb hc) rfl (by simp) (fun _ => by simp)).trans (dk_65 hr ha hb hc).symm
theorem sm_66 : Sm 66 := fun X hX hc r hr => match X, hX, hc with | [a, b, c], _, ⟨ha, hb, hc, _⟩ => (do_of_tells (k := 66) (n := 3) (by omega) (by omega) (by omega) rfl rfl hr (rt_66 ha hb hc) rfl (by simp) (fun _ => by simp)).trans (dk_66 hr ha hb hc).symm
theorem sm_67 : Sm 67 := fun X hX hc r hr => match X, hX, hc with | [a, b, c], _, ⟨ha, hb, hc, _⟩ => (do_of_tells (k := 67) (n := 3) (by omega) (by omega) (by omega) rfl rfl hr (rt_67 ha hb hc) rfl (by simp) (fun _ => by simp)).trans (dk_67 hr ha hb hc).symm
theorem sm_68 : Sm 68 := fun X hX hc r hr => match X, hX, hc with | [a], _, ⟨ha, _⟩ => (do_of_tells (k := 68) (n := 1) (by omega) (by omega) (by omega) rfl rfl hr (rt_68 ha) rfl (by simp) (fun h => absurd rfl h)).trans (dk_68 hr).symm
theorem sm_69 : Sm 69 := fun X hX hc r hr => match X, hX, hc with | [a, b, c, d], _, ⟨ha, hb, hc, hd, _⟩ => (do_of_tells (k := 69) (n := 4) (by omega) (by omega) (by omega) rfl rfl hr (rt_69 ha hb hc hd) rfl (by simp) (fun h => absurd rfl h)).trans (dk_69 hr ha hb hc hd).symm
theorem sm_70 : Sm 70 := fun X hX hc r hr => match X, hX, hc with | [a, b], _, ⟨ha, hb, _⟩ => (do_of_tells (k := 70) (n := 2) (by omega) (by omega) (by omega) rfl rfl hr (rt_70 ha hb) rfl (by simp) (fun h => absurd rfl h)).trans (dk_70 hr ha hb).symm
theorem sm_71 : Sm 71 := fun X hX hc r hr => match X, hX, hc with | [a], _, ⟨ha, _⟩ => (do_of_tells (k := 71) (n := 1) (by omega) (by omega) (by omega) rfl rfl hr (rt_71 a) rfl (by simp) (fun h => absurd rfl h)).trans (dk_71 hr).symm
theorem sm_72 : Sm 72 := fun X hX hc r hr => match X, hX, hc with | [a], _, ⟨ha, _⟩ => (do_of_tells (k := 72) (n := 1) (by omega) (by omega) (by omega) rfl rfl hr (rt_72 a) rfl (by simp) (fun h => absurd rfl h)).trans (dk_72 hr).symm
theorem sm_73 : Sm 73 := fun X hX hc r hr => match X, hX, hc with | [a], _, ⟨ha, _⟩ => (do_of_tells (k := 73) (n := 1) (by omega) (by omega) (by omega) rfl rfl hr (rt_73 a) rfl (by simp) (fun h => absurd rfl h)).trans (dk_73 hr).symm
theorem sm_74 : Sm 74 := fun X hX hc r hr => match X, hX, hc with | [a], _, ⟨ha, _⟩ => (do_of_tells (k := 74) (n := 1) (by omega) (by omega) (by omega) rfl rfl hr (rt_74 ha) rfl (by simp) (fun h => absurd rfl h)).trans (dk_74 hr).symm
theorem sm_tab : ∀ k : Nat, 18 ≤ k → k ≤ 74 → (k < 29 ∨ 32 < k) → Sm k
  | 18, _, _, _ => sm_18
  | 19, _, _, _ => sm_19
  | 20, _, _, _ => sm_20
  | 21, _, _, _ => sm_21
  | 22, _, _, _ => sm_22
  | 23, _, _, _ => sm_23
  | 24, _, _, _ => sm_24
  | 25, _, _, _ => sm_25
  | 26, _, _, _ => sm_26
  | 27, _, _, _ => sm_27
  | 28, _, _, _ => sm_28
  | 33, _, _, _ => sm_33
  | 34, _, _, _ => sm_34
  | 35, _, _, _ => sm_35
  | 36, _, _, _ => sm_36
  | 37, _, _, _ => sm_37
  | 38, _, _, _ => sm_38
  | 39, _, _, _ => sm_39
  | 40, _, _, _ => sm_40
  | 41, _, _, _ => sm_41
  | 42, _, _, _ => sm_42
  | 43, _, _, _ => sm_43
  | 44, _, _, _ => sm_44
  | 45, _, _, _ => sm_45
  | 46, _, _, _ => sm_46
  | 47, _, _, _ => sm_47
  | 48, _, _, _ => sm_48
  | 49, _, _, _ => sm_49
  | 50, _, _, _ => sm_50
  | 51, _, _, _ => sm_51
  | 52, _, _, _ => sm_52
  | 53, _, _, _ => sm_53
  | 54, _, _, _ => sm_54
  | 55, _, _, _ => sm_55
  | 56, _, _, _ => sm_56
  | 57, _, _, _ => sm_57
  | 58, _, _, _ => sm_58
  | 59, _, _, _ => sm_59
  | 60, _, _, _ => sm_60
  | 61, _, _, _ => sm_61
  | 62, _, _, _ => sm_62
  | 63, _, _, _ => sm_63
  | 64, _, _, _ => sm_64
  | 65, _, _, _ => sm_65
  | 66, _, _, _ => sm_66
  | 67, _, _, _ => sm_67
  | 68, _, _, _ => sm_68
  | 69, _, _, _ => sm_69
  | 70, _, _, _ => sm_70
  | 71, _, _, _ => sm_71
  | 72, _, _, _ => sm_72
  | 73, _, _, _ => sm_73
  | 74, _, _, _ => sm_74
  | 29, _, _, h => by omega
  | 30, _, _, h => by omega
  | 31, _, _, h => by omega
  | 32, _, _, h => by omega
  | n + 75, _, h, _ => by omega
  | 0, h, _, _ | 1, h, _, _ | 2, h, _, _ | 3, h, _, _ | 4, h, _, _ | 5, h, _, _ | 6, h, _, _ | 7, h, _, _ | 8, h, _, _ | 9, h, _, _ | 10, h, _, _ | 11, h, _, _ | 12, h, _, _ | 13, h, _, _ | 14, h, _, _ | 15, h, _, _ | 16, h, _, _ | 17, h, _, _ => by omega
end Go.Proofs.Dbl

/- Plain facts: ?DUP, PICK, ROLL and DEPTH by the document. -/
namespace Go.Proofs.Dbl
open Go Go.TX Go.Proofs
set_option maxRecDepth 100000
set_option maxHeartbeats 0
set_option linter.unusedVariables false
set_option linter.unusedSimpArgs false
/-- What is done with what is popped. -/
noncomputable def afterPop (k : Int) (d r x : List Int) : Option (List Int × Int) :=
  cond (k == (30 : Int)) (cond (decide ((0 : Int) ≤ (0 : Int) ∧ (0 : Int) < (x.length : Int))) (outOf (r4_Pick r (List.getD x 0 0)) fun (x3 : (Int × Int)) => cond (Prod.snd x3 != (0 : Int)) (some (d, Prod.snd x3)) (outOf (r4_Push r (64 : Int) [Prod.fst x3]) fun (x4 : ((List Int) × Int)) => some (Prod.fst x4, Prod.snd x4))) none)
    (cond (k == (31 : Int)) (cond (decide ((0 : Int) ≤ (0 : Int) ∧ (0 : Int) < (x.length : Int))) (outOf (r4_Roll r (List.getD x 0 0)) fun (x5 : ((List Int) × Int)) => cond (Prod.snd x5 != (0 : Int)) (some (d, Prod.snd x5)) (some (Prod.fst x5, (0 : Int)))) none)
    (cond (decide ((0 : Int) ≤ (0 : Int) ∧ (0 : Int) < (x.length : Int))) (cond (List.getD x 0 0 == (0 : Int)) (some (d, (0 : Int))) (outOf (r4_Push d (64 : Int) x) fun (x6 : ((List Int) × Int)) => some (Prod.fst x6, Prod.snd x6))) none))
theorem special_pop {k : Int} {r : List Int} {a : Int} (hk : (k == 32) = false) (hr : r.length + 1 ≤ 64) : r9_special k (r ++ [a]) = afterPop k (r ++ [a]) r [a] := by
  have hlen : (r ++ [a]).length = r.length + 1 := by simp
  have hp : IntKind.wrap IntKind.i64 (((r.length + 1 : Nat) : Int) - 1) = (r.length : Int) := by rw [wi, W_of ⟨by omega, by omega⟩]; omega
  unfold r9_special r9_special_t
  rw [hk, hlen, hp, decide_eq_false (show ¬ (1 : Int) > ((r.length + 1 : Nat) : Int) by omega),
    decide_eq_true (show (0 : Int) ≤ 0 ∧ (0 : Int) ≤ (r.length : Int) ∧ (r.length : Int) ≤ ((r.length + 1 : Nat) : Int) by omega),
    decide_eq_true (show (0 : Int) ≤ (r.length : Int) ∧ (r.length : Int) ≤ ((r.length + 1 : Nat) : Int) ∧ ((r.length + 1 : Nat) : Int) ≤ ((r.length + 1 : Nat) : Int) by omega)]
  simp only [cond_false, cond_true, Int.toNat_natCast, Nat.sub_zero, List.drop_zero]
  have hT : List.take r.length (r ++ [a]) = r := List.take_left
  have hD : List.drop r.length (r ++ [a]) = [a] := List.drop_left
  have hnn : r.length + 1 - r.length = 1 := by omega
  have hXX : List.take 1 [a] = [a] := rfl
  have hTr : List.take r.length r = r := List.take_length
  have hl1 : [a].length = 1 := rfl
  simp only [hT, hD, hnn, hXX, hTr, hl1]
  rw [decide_eq_true (show r.length ≤ 2147483648 by omega), decide_eq_true (show 1 ≤ 2147483648 by omega)]
  rfl
end Go.Proofs.Dbl

/- Plain facts: the document's Do is the program's. -/
namespace Go.Proofs.Dbl
open Go Go.TX Go.Proofs
set_option maxRecDepth 100000
set_option maxHeartbeats 0
set_option linter.unusedVariables false
set_option linter.unusedSimpArgs false
theorem rRoll {l : List Int} {n : Int} (hl : l.length ≤ 1000) (hn : Cell n) : r4_Roll l n = some (if 0 ≤ n ∧ n < l.length then (l.take (l.length - 1 - n.toNat) ++ l.drop (l.length - n.toNat) ++ [l.getD (l.length - 1 - n.toNat) 0], 0) else (l, -4)) := by
  unfold r4_Roll r4_Roll_t
  rw [rPick hl hn]
  simp only [outOf_some]
  by_cases h : 0 ≤ n ∧ n < (l.length : Int)
  · rw [if_pos h, if_pos h]
    have w : IntKind.wrap IntKind.i64 (IntKind.wrap IntKind.i64 ((l.length : Int) - 1) - n) = ((l.length - 1 - n.toNat : Nat) : Int) := by
      rw [wi, wi, W_of (x := (l.length : Int) - 1) ⟨by omega, by omega⟩, W_of ⟨by omega, by omega⟩]; omega
    have w2 : IntKind.wrap IntKind.i64 (((l.length - 1 - n.toNat : Nat) : Int) + 1) = ((l.length - n.toNat : Nat) : Int) := by rw [wi, W_of ⟨by omega, by omega⟩]; omega
    rw [w, w2]
    simp only [bne_self_eq_false, cond_false, Int.toNat_natCast, Nat.sub_zero, List.drop_zero]
    generalize hk : l.length - 1 - n.toNat = k at *
    have hk2 : l.length - n.toNat = k + 1 := by omega
    rw [hk2]
    rw [decide_eq_true (show (0 : Int) ≤ 0 ∧ (0 : Int) ≤ (k : Int) ∧ (k : Int) ≤ (l.length : Int) by omega), decide_eq_true (show (0 : Int) ≤ ((k + 1 : Nat) : Int) ∧ ((k + 1 : Nat) : Int) ≤ (l.length : Int) ∧ (l.length : Int) ≤ (l.length : Int) by omega)]
    have l1 : (List.take k l).length = k := by rw [List.length_take]; omega
    have l2 : List.take (l.length - (k + 1)) (List.drop (k + 1) l) = List.drop (k + 1) l := List.take_of_length_le (by rw [List.length_drop]; omega)
    have l3 : (List.drop (k + 1) l).length = l.length - (k + 1) := by rw [List.length_drop]
    have l4 : List.take k (List.take k l) = List.take k l := by rw [List.take_take, Nat.min_self]
    simp only [l1, l2, l3, l4, cond_true, List.length_singleton]
    rw [decide_eq_true (show k ≤ 2147483648 by omega), decide_eq_true (show k + (l.length - (k + 1)) ≤ 2147483648 by omega), decide_eq_true (show k + (l.length - (k + 1)) + 1 ≤ 2147483648 by omega)]
    simp only [cond_true]
    have l5 : List.take (k + (l.length - (k + 1))) (List.take k l ++ List.drop (k + 1) l) = List.take k l ++ List.drop (k + 1) l := List.take_of_length_le (by simp; omega)
    rw [l5]
    rw [List.take_of_length_le (by simp; omega)]
  · rw [if_neg h, if_neg h]; rfl
end Go.Proofs.Dbl

/- Plain facts: the document's Do is the program's; rows of operations. -/
namespace Go.Proofs.Dbl
open Go Go.TX Go.Proofs
set_option maxRecDepth 100000
set_option maxHeartbeats 0
set_option linter.unusedVariables false
set_option linter.unusedSimpArgs false
/-- The part of four operations. -/
noncomputable def spF (d : List Int) (x : List Int × Int) : Option (List Int × Int) := cond (x.2 != (0 : Int)) (some (d, x.2)) (some (x.1, (0 : Int)))
theorem do_special {k : Nat} {d : List Int} (h1 : 29 ≤ k) (h2 : k ≤ 32) (hn : need k ≤ d.length) (hl : d.length ≤ 64) : r9_Do (k : Int) d = outOf (r9_special (k : Int) d) (spF d) := by
  unfold r9_Do r9_Do_t
  rw [rgroup_1 (by omega) (by omega)]
  simp only [outOf_some]
  rw [rneeds (by omega) (by omega)]
  have e1 : ((1 : Int) != 1) = false := rfl
  simp only [outOf_some]
  rw [e1, decide_eq_false (show ¬ (d.length : Int) < (need k : Int) by omega), decide_eq_false (show ¬ (d.length : Int) > 64 by omega)]
  simp only [cond_false]
  have m1 : r9_Do_M1 (k : Int) = some true := by
    unfold r9_Do_M1 r9_Do_M1_t
    rw [decide_eq_true (by omega), decide_eq_true (by omega)]; rfl
  have m2 : r9_Do_M2 (k : Int) d = outOf (r9_special (k : Int) d) fun x10 => cond (Prod.snd x10 != (0 : Int)) (some (.inl (d, Prod.snd x10))) (some (.inl (Prod.fst x10, (0 : Int)))) := by
    unfold r9_Do_M2 r9_Do_M2_t
    rw [m1]; rfl
  rw [m2]
  cases hs : r9_special (k : Int) d with
  | none => rfl
  | some x =>
    simp only [outOf_some]
    unfold spF
    cases hx : (x.2 != (0 : Int)) <;> rfl
theorem sp_30 {d : List Int} (hd : AllC d) (h1 : 1 ≤ d.length) (h2 : d.length ≤ 64) : r9_Do 30 d = Do_30 d := by
  refine (do_special (k := 30) (by omega) (by omega) h1 h2).trans ?_
  obtain ⟨r, a, rfl, hr⟩ := last1 d h1
  have hra := AllC_append.1 hd
  rw [show ((30 : Nat) : Int) = (30 : Int) from rfl, special_pop (k := 30) rfl (by omega)]
  unfold Do_30 Do_30_t
  rw [cf (by omega), cf (by omega), popX1 (by omega)]
  simp only [outOf_some]
  rw [ct (by simp)]
  unfold afterPop
  rw [show ((30 : Int) == 30) = true from rfl, ct (by simp)]
  simp only [cond_true]
  rw [show List.getD [a] 0 0 = a from rfl, Pick_eq (by omega) hra.2.1, rPick (by omega) hra.2.1]
  simp only [outOf_some]
  by_cases g : 0 ≤ a ∧ a < (r.length : Int)
  · rw [if_pos g]
    simp only [bne_self_eq_false, cond_false]
    rw [Push_eq (by omega) (by simp), rPush (by omega) (by simp)]
    rfl
  · rw [if_neg g]; rfl
theorem sp_31 {d : List Int} (hd : AllC d) (h1 : 1 ≤ d.length) (h2 : d.length ≤ 64) : r9_Do 31 d = Do_31 d := by
  refine (do_special (k := 31) (by omega) (by omega) h1 h2).trans ?_
  obtain ⟨r, a, rfl, hr⟩ := last1 d h1
  have hra := AllC_append.1 hd
  rw [show ((31 : Nat) : Int) = (31 : Int) from rfl, special_pop (k := 31) rfl (by omega)]
  unfold Do_31 Do_31_t
  rw [cf (by omega), cf (by omega), popX1 (by omega)]
  simp only [outOf_some]
  rw [ct (by simp)]
  unfold afterPop
  rw [show ((31 : Int) == 30) = false from rfl, show ((31 : Int) == 31) = true from rfl, ct (by simp)]
  simp only [cond_true, cond_false]
  rw [show List.getD [a] 0 0 = a from rfl, Roll_eq (by omega) hra.2.1, rRoll (by omega) hra.2.1]
  simp only [outOf_some]
  by_cases g : 0 ≤ a ∧ a < (r.length : Int)
  · rw [if_pos g]; rfl
  · rw [if_neg g]; rfl
theorem sp_29 {d : List Int} (hd : AllC d) (h1 : 1 ≤ d.length) (h2 : d.length ≤ 64) : r9_Do 29 d = Do_29 d := by
  refine (do_special (k := 29) (by omega) (by omega) h1 h2).trans ?_
  obtain ⟨r, a, rfl, hr⟩ := last1 d h1
  rw [show ((29 : Nat) : Int) = (29 : Int) from rfl, special_pop (k := 29) rfl (by omega)]
  unfold Do_29 Do_29_t
  rw [cf (by omega), cf (by omega), Pick_eq (by omega) zero_cell, if_pos (by omega)]
  simp only [outOf_some]
  unfold afterPop
  rw [show ((29 : Int) == 30) = false from rfl, show ((29 : Int) == 31) = false from rfl, ct (by simp)]
  simp only [cond_false]
  have hg : (r ++ [a]).getD ((r ++ [a]).length - 1 - (0 : Int).toNat) 0 = a := by simp [List.getD_eq_getElem?_getD]
  rw [hg, show List.getD [a] 0 0 = a from rfl]
  by_cases ha : a = 0
  · rw [show (a == 0) = true from by simp [ha]]; rfl
  · rw [beq_eq_false_iff_ne.2 ha]
    simp only [cond_false]
    rw [Push_eq (by omega) (by simp), rPush (by omega) (by simp)]
    rfl
theorem sp_32 {d : List Int} (hd : AllC d) (h2 : d.length ≤ 64) : r9_Do 32 d = Do_32 d := by
  refine (do_special (k := 32) (by omega) (by omega) (Nat.zero_le _) h2).trans ?_
  rw [show ((32 : Nat) : Int) = (32 : Int) from rfl]
  unfold Do_32 Do_32_t
  rw [cf (by omega), cf (by omega), Push_eq (by omega) (by simp)]
  unfold r9_special r9_special_t
  rw [show ((32 : Int) == 32) = true from rfl]
  simp only [cond_true]
  rw [rPush (by omega) (by simp)]
  rfl
theorem rDo_eq {o : Int} {d : List Int} (hd : AllC d) (hl : d.length ≤ 1000) : r9_Do o d = pure_Do o d := by
  by_cases g : 18 ≤ o ∧ o ≤ 74
  · obtain ⟨k, rfl⟩ : ∃ k : Nat, o = (k : Int) := ⟨o.toNat, by omega⟩
    have hk1 : 18 ≤ k := by omega
    have hk2 : k ≤ 74 := by omega
    rw [Do_at hk1 hk2]
    by_cases hu : d.length < need k
    · rw [tab_un k hk1 hk2 hu]
      unfold r9_Do r9_Do_t
      rw [rgroup_1 hk1 hk2]
      simp only [outOf_some]
      rw [rneeds hk1 hk2]
      simp only [outOf_some]
      rw [decide_eq_true (show (d.length : Int) < (need k : Int) by omega)]
      rfl
    · by_cases ho : 64 < d.length
      · rw [tab_ov ho k hk1 hk2]
        unfold r9_Do r9_Do_t
        rw [rgroup_1 hk1 hk2]
        simp only [outOf_some]
        rw [rneeds hk1 hk2]
        simp only [outOf_some]
        rw [decide_eq_false (show ¬ (d.length : Int) < (need k : Int) by omega), decide_eq_true (show (d.length : Int) > 64 by omega)]
        rfl
      · by_cases hs : k < 29 ∨ 32 < k
        · obtain ⟨r, x, rfl, hx, hr⟩ := split_at (d := d) (n := need k) (by omega)
          exact sm_tab k hk1 hk2 hs x hx (AllC_append.1 hd).2 r (by omega)
        · have hk : k = 29 ∨ k = 30 ∨ k = 31 ∨ k = 32 := by omega
          rcases hk with rfl | rfl | rfl | rfl
          · exact sp_29 hd (Nat.not_lt.1 hu) (by omega)
          · exact sp_30 hd (Nat.not_lt.1 hu) (by omega)
          · exact sp_31 hd (Nat.not_lt.1 hu) (by omega)
          · exact sp_32 hd (by omega)
  · obtain ⟨v, hv, hne⟩ := group_out g
    obtain ⟨v', hv', hne'⟩ := rgroup_out g
    unfold pure_Do
    rw [if_neg g, hv]
    unfold r9_Do r9_Do_t
    rw [hv']
    simp only [outOf_some]
    rw [bne_iff_ne.2 hne, bne_iff_ne.2 hne']
    rfl
/-- One operation leaves cells; if it throws, what lay there lies there. -/
theorem Do_cells {o : Int} {d : List Int} (hd : AllC d) (hl : d.length ≤ 1000) : ∃ d' e, pure_Do o d = some (d', e) ∧ AllC d' ∧ d'.length ≤ 1000 := by
  by_cases h : d.length ≤ 64
  · obtain ⟨d', e, h1, h2, h3⟩ := Do_fine (o := o) hd h
    exact ⟨d', e, h1, h2, by omega⟩
  · by_cases g : 18 ≤ o ∧ o ≤ 74
    · obtain ⟨k, rfl⟩ : ∃ k : Nat, o = (k : Int) := ⟨o.toNat, by omega⟩
      rw [Do_at (by omega) (by omega), tab_ov (by omega) k (by omega) (by omega)]
      exact ⟨_, _, rfl, hd, hl⟩
    · obtain ⟨v, hv, hne⟩ := group_out g
      unfold pure_Do
      rw [if_neg g, hv]
      refine ⟨d, -21, ?_, hd, hl⟩
      simp only [outOf_some]
      rw [bne_iff_ne.2 hne]; rfl
theorem rAll_eq {l : List Int} {d : List Int} (hl : l.length ≤ 1000) (hd : AllC d) (hd2 : d.length ≤ 1000) : r9_All l d = allF l d := by
  have key : ∀ k, k ≤ l.length → ∀ d, AllC d → d.length ≤ 1000 → outOf (runs r9_All_L1_pass (l, d, ((l.length - k : Nat) : Int))) (fun v => sumOf v (fun x => some (x.1, x.2)) (fun x => some (x, (0 : Int)))) = allF (l.drop (l.length - k)) d := by
    intro k
    induction k with
    | zero =>
      intro _ d hd hd2
      rw [Nat.sub_zero, List.drop_length]
      have : r9_All_L1_pass (l, d, (l.length : Int)) = some (.inr (.inr d)) := by
        unfold r9_All_L1_pass r9_All_L1_t
        simp only
        rw [cf (by omega)]
      rw [runs_out this]
      rfl
    | succ k ih =>
      intro hk d hd hd2
      have hi : l.length - (k + 1) < l.length := by omega
      have e1 : l.length - k = (l.length - (k + 1)) + 1 := by omega
      rw [e1] at ih
      generalize l.length - (k + 1) = i at *
      have hg : l.getD i 0 = l[i] := by simp [List.getD_eq_getElem?_getD, hi]
      have hp : r9_All_L1_pass (l, d, (i : Int)) = outOf (pure_Do l[i] d) fun x => cond (x.2 != (0 : Int)) (some (.inr (.inl (x.1, x.2)))) (some (.inl (l, x.1, ((i + 1 : Nat) : Int)))) := by
        unfold r9_All_L1_pass r9_All_L1_t
        simp only [wi, Int.toNat_natCast]
        rw [ct (by omega), ct (by omega), hg, rDo_eq hd hd2, show W ((i : Int) + 1) = ((i + 1 : Nat) : Int) from by unfold W; omega]
      rw [List.drop_eq_getElem_cons hi]
      show _ = outOf (pure_Do l[i] d) fun x => cond (x.2 != (0 : Int)) (some x) (allF (l.drop (i + 1)) x.1)
      obtain ⟨d', e, h1, h2, h3⟩ := Do_cells (o := l[i]) hd hd2
      rw [h1] at hp
      rw [h1]
      simp only [outOf_some] at hp ⊢
      by_cases hx : e = 0
      · rw [show (e != 0) = false from by simp [hx]] at hp ⊢
        rw [runs_next hp]
        exact ih (by omega) d' h2 h3
      · rw [show (e != 0) = true from by simpa using hx] at hp ⊢
        rw [runs_out hp]
        rfl
  have := key l.length (Nat.le_refl _) d hd hd2
  rw [Nat.sub_self, List.drop_zero] at this
  unfold r9_All r9_All_t
  exact this
/-- What a row of operations leaves is cells again. -/
theorem allF_cells : ∀ (l d : List Int), AllC d → d.length ≤ 1000 → ∃ d' e, allF l d = some (d', e) ∧ AllC d' ∧ d'.length ≤ 1000
  | [], d, hd, h => ⟨d, 0, rfl, hd, h⟩
  | o :: l, d, hd, h => by
    obtain ⟨d1, e1, h1, h2, h3⟩ := Do_cells (o := o) hd h
    by_cases he : e1 = 0
    · subst he
      rw [allF_ok h1]
      exact allF_cells l d1 h2 h3
    · rw [allF_no h1 he]; exact ⟨_, _, rfl, h2, h3⟩
end Go.Proofs.Dbl
