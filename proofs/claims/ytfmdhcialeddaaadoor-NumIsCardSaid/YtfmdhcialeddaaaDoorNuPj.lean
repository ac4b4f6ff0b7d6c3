/- Plain facts: a double divided by a small number. -/
import Derived.Test.YtfmdhcialeddaaaDoorNuXE
import Derived.Test.YtfmdhcialeddaaaDoorNuPi
namespace Go.Proofs.Dbl
open Go Go.TX Go.Proofs
set_option maxRecDepth 100000
set_option maxHeartbeats 0
set_option linter.unusedVariables false
set_option linter.unusedSimpArgs false

/-- Two numbers whose bits lie apart. -/
theorem or_u64 {x y : Int} (k : Nat) (hk : k < 64) (hx : 0 ≤ x) (hx' : x * 2 ^ k < 18446744073709551616) (hy : 0 ≤ y) (hy' : y < 2 ^ k) : ibits .or .u64 (x * 2 ^ k) y = x * 2 ^ k + y := by
  obtain ⟨a, rfl⟩ : ∃ a : Nat, x = a := ⟨x.toNat, by omega⟩
  obtain ⟨b, rfl⟩ : ∃ b : Nat, y = b := ⟨y.toNat, by omega⟩
  have ek : ((2 : Int) ^ k) = ((2 ^ k : Nat) : Int) := (Int.natCast_pow 2 k).symm
  have e : ((a : Int) * 2 ^ k) = ((a * 2 ^ k : Nat) : Int) := by rw [Int.natCast_mul, ek]
  have hb : b < 2 ^ k := by rw [ek] at hy'; exact Int.ofNat_lt.1 hy'
  rw [e] at hx' ⊢
  have hp : 2 ^ k ≤ 2 ^ 63 := Nat.pow_le_pow_right (by omega) (by omega)
  have h63 : (2 : Nat) ^ 63 = 9223372036854775808 := rfl
  have hsum : a * 2 ^ k + b < 18446744073709551616 := by
    have h1 : a * 2 ^ k < 18446744073709551616 := by omega
    have h2 : a * 2 ^ k + 2 ^ k ≤ 18446744073709551616 := by
      have : (18446744073709551616 : Nat) = 2 ^ (64 - k) * 2 ^ k := by
        rw [← Nat.pow_add, Nat.sub_add_cancel (by omega)]
      rw [this] at h1 ⊢
      have h3 : a < 2 ^ (64 - k) := Nat.lt_of_mul_lt_mul_right h1
      have h4 : (a + 1) * 2 ^ k ≤ 2 ^ (64 - k) * 2 ^ k := Nat.mul_le_mul_right _ h3
      rw [Nat.add_mul] at h4
      omega
    omega
  rw [ibits_def]
  show IntKind.wrap .u64 (((BitVec.ofInt 64 ((a * 2 ^ k : Nat) : Int) ||| BitVec.ofInt 64 (b : Int)).toNat : Nat) : Int) = _
  rw [BitVec.toNat_or]
  have e1 : (BitVec.ofInt 64 ((a * 2 ^ k : Nat) : Int)).toNat = a * 2 ^ k := by
    rw [BitVec.toNat_ofInt]; omega
  have e2 : (BitVec.ofInt 64 (b : Int)).toNat = b := by
    rw [BitVec.toNat_ofInt]; omega
  rw [e1, e2, wu]
  have e3 : a * 2 ^ k ||| b = a * 2 ^ k + b := by
    rw [← Nat.shiftLeft_eq, Nat.shiftLeft_add_eq_or_of_lt hb]
  rw [e3]
  omega

theorem bitLen_small : ∀ b : Fin 37, 2 ≤ b.val → 2 ≤ Lib.bitLen b.val ∧ Lib.bitLen b.val ≤ 6 ∧ 2 ^ (Lib.bitLen b.val - 1) ≤ b.val ∧ b.val < 2 ^ Lib.bitLen b.val := by decide +kernel

theorem lz64_eq {b : Nat} (h1 : 2 ≤ b) (h2 : b ≤ 36) : lz64 (b : Int) = some ((64 - Lib.bitLen b : Nat) : Int) := by
  obtain ⟨l1, l2, _, _⟩ := bitLen_small ⟨b, by omega⟩ h1
  simp only at l1 l2
  unfold lz64 lz64_t
  have c1 : decide ((0 : Int) ≤ (b : Int) ∧ (b : Int) ≤ (18446744073709551615 : Int)) = true := decide_eq_true (by omega)
  rw [c1, held_is, Int.toNat_natCast, wi]
  simp only [cond_true]
  generalize Lib.bitLen b = L at l1 l2
  have e : W ((64 : Int) - (L : Int)) = ((64 - L : Nat) : Int) := by
    rw [W_of ⟨by omega, by omega⟩]; omega
  rw [e]

/-- Long division of two digits by one, where the divisor's low half is nought. -/
theorem div_core {hi lo b D P Q : Int} (hP : P = D * 4294967296) (hPQ : P * Q = 18446744073709551616) (hD : 0 < D) (hQ : 0 < Q) (hb : 0 < b) (h0 : 0 ≤ hi) (h1 : hi < b) (l0 : 0 ≤ lo) (l1 : lo < 18446744073709551616) :
    let U := hi * P + lo / Q
    let d := b * D
    let t := (lo * P) % 18446744073709551616
    let V := U % d * 4294967296 + t / 4294967296
    (U / d * 4294967296 + V / d) = (hi * 18446744073709551616 + lo) / b ∧ (V % d * 4294967296 + t % 4294967296) / P = (hi * 18446744073709551616 + lo) % b := by
  intro U d t V
  have hd : 0 < d := Int.mul_pos hb hD
  have eU := Int.emod_add_mul_ediv U d
  have eV := Int.emod_add_mul_ediv V d
  have et := Int.emod_add_mul_ediv t 4294967296
  have rV0 := Int.emod_nonneg V (b := d) (by omega)
  have rV1 := Int.emod_lt_of_pos V hd
  have rt0 := Int.emod_nonneg t (b := 4294967296) (by omega)
  have rt1 := Int.emod_lt_of_pos t (b := 4294967296) (by omega)
  have hPpos : 0 < P := by omega
  -- what is divided, moved up
  have elo := Int.emod_add_mul_ediv lo Q
  have q0 := Int.emod_nonneg lo (b := Q) (by omega)
  have q1 := Int.emod_lt_of_pos lo hQ
  have et2 : t = lo % Q * P := by
    have h : lo * P = lo % Q * P + 18446744073709551616 * (lo / Q) := by
      calc lo * P = (lo % Q + Q * (lo / Q)) * P := by rw [elo]
        _ = lo % Q * P + (P * Q) * (lo / Q) := by rw [Int.add_mul]; congr 1; rw [Int.mul_comm P Q, Int.mul_assoc, Int.mul_assoc, Int.mul_comm (lo / Q) P]
        _ = _ := by rw [hPQ]
    have hlt : lo % Q * P < 18446744073709551616 := by
      rw [← hPQ, Int.mul_comm P Q]
      exact Int.mul_lt_mul_of_pos_right q1 hPpos
    have hge : 0 ≤ lo % Q * P := Int.mul_nonneg q0 (by omega)
    show lo * P % 18446744073709551616 = _
    rw [h, Int.add_mul_emod_self_left, Int.emod_eq_of_lt hge hlt]
  have eM : (hi * 18446744073709551616 + lo) * P = U * 18446744073709551616 + t := by
    show _ = (hi * P + lo / Q) * 18446744073709551616 + t
    rw [et2, Int.add_mul, Int.add_mul]
    have : lo * P = lo / Q * 18446744073709551616 + lo % Q * P := by
      calc lo * P = (lo % Q + Q * (lo / Q)) * P := by rw [elo]
        _ = lo % Q * P + (lo / Q) * (P * Q) := by rw [Int.add_mul]; congr 1; rw [Int.mul_comm P Q, Int.mul_comm Q (lo / Q), Int.mul_assoc]
        _ = _ := by rw [hPQ]; omega
    rw [this]
    have : hi * 18446744073709551616 * P = hi * P * 18446744073709551616 := by rw [Int.mul_assoc, Int.mul_assoc, Int.mul_comm P]
    omega
  have key : (hi * 18446744073709551616 + lo) * P = (U / d * 4294967296 + V / d) * b * P + (V % d * 4294967296 + t % 4294967296) := by
    have e1 : (U / d * 4294967296 + V / d) * b * P = (U / d * 4294967296 + V / d) * d * 4294967296 := by
      rw [hP]
      show _ = (U / d * 4294967296 + V / d) * (b * D) * 4294967296
      rw [Int.mul_assoc, Int.mul_assoc, Int.mul_assoc]
    have e2 : (U / d * 4294967296 + V / d) * d = d * (U / d) * 4294967296 + d * (V / d) := by
      rw [Int.add_mul, Int.mul_comm (V / d) d]; congr 1
      rw [Int.mul_comm (U / d) 4294967296, Int.mul_assoc, Int.mul_comm (U / d) d, Int.mul_comm]
    rw [eM, e1, e2]
    have eV' : V = U % d * 4294967296 + t / 4294967296 := rfl
    generalize d * (U / d) = x1 at *
    generalize d * (V / d) = x2 at *
    omega
  have hR0 : 0 ≤ V % d * 4294967296 + t % 4294967296 := by omega
  have hR1 : V % d * 4294967296 + t % 4294967296 < b * P := by
    have : b * P = d * 4294967296 := by rw [hP]; show _ = b * D * 4294967296; rw [Int.mul_assoc]
    rw [this]; omega
  generalize U / d * 4294967296 + V / d = q at *
  generalize V % d * 4294967296 + t % 4294967296 = R at *
  have hR : R = (hi * 18446744073709551616 + lo - q * b) * P := by rw [Int.sub_mul]; omega
  have hdiv : R / P = hi * 18446744073709551616 + lo - q * b := by rw [hR]; exact Int.mul_ediv_cancel _ (by omega)
  have r0 : 0 ≤ R / P := Int.ediv_nonneg hR0 (by omega)
  have r1 : R / P < b := Int.ediv_lt_of_lt_mul hPpos hR1
  have em : hi * 18446744073709551616 + lo = R / P + b * q := by rw [hdiv, Int.mul_comm b q]; omega
  refine ⟨?_, ?_⟩
  · rw [em, Int.add_mul_ediv_left _ _ (by omega), Int.ediv_eq_zero_of_lt r0 r1]; omega
  · conv => rhs; rw [em]
    rw [Int.add_mul_emod_self_left, Int.emod_eq_of_lt r0 r1]

end Go.Proofs.Dbl
