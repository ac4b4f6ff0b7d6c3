/- Plain facts about doubles: what each function of the package comes to, as numbers. -/
import Derived.Test.YtfmdhcialeddaaaDoorNuXA
import Derived.IntWalk
import Derived.Laws.Bits64
namespace Go.Proofs.Dbl
open Go Go.TX Go.Proofs
set_option maxRecDepth 100000
set_option maxHeartbeats 0
set_option linter.unusedVariables false
set_option linter.unusedSimpArgs false

/-- A number as a cell holds it. -/
def W (x : Int) : Int := (x + 9223372036854775808) % 18446744073709551616 - 9223372036854775808
def Cell (x : Int) : Prop := -9223372036854775808 ≤ x ∧ x ≤ 9223372036854775807
/-- The number of a double. -/
def S (lo hi : Int) : Int := lo % 18446744073709551616 + 18446744073709551616 * hi
/-- A number as a double. -/
def Pd (v : Int) : Int × Int := (W v, W (v / 18446744073709551616))

theorem wi (n : Int) : IntKind.wrap .i64 n = W n := by
  have := IntWalk.i64_left n
  unfold RowKit.wrap64 at this
  unfold W
  omega
theorem wu (n : Int) : IntKind.wrap .u64 n = n % 18446744073709551616 := IntKind.wrap_u64 n

theorem W_cell (x : Int) : Cell (W x) := by unfold Cell W; omega
theorem W_of {x : Int} (h : Cell x) : W x = x := by unfold Cell at h; unfold W; omega
theorem W_W (x : Int) : W (W x) = W x := W_of (W_cell x)
theorem W_mod (x : Int) : W (x % 18446744073709551616) = W x := by unfold W; omega
theorem mod_W (x : Int) : W x % 18446744073709551616 = x % 18446744073709551616 := by unfold W; omega
theorem W_eq {x y : Int} : W x = W y ↔ (x - y) % 18446744073709551616 = 0 := by unfold W; omega

theorem Pd_S {lo hi : Int} (h1 : Cell lo) (h2 : Cell hi) : Pd (S lo hi) = (lo, hi) := by
  unfold Cell at h1 h2
  unfold Pd S W
  refine Prod.ext ?_ ?_ <;> simp only <;> omega
theorem S_Pd (v : Int) : S (W v) (W (v / 18446744073709551616)) = (v + 170141183460469231731687303715884105728) % 340282366920938463463374607431768211456 - 170141183460469231731687303715884105728 := by
  unfold S W; omega
theorem Pd_eq {v w : Int} : Pd v = Pd w ↔ (v - w) % 340282366920938463463374607431768211456 = 0 := by
  unfold Pd W
  simp only [Prod.mk.injEq]
  omega
theorem S_range {lo hi : Int} (h1 : Cell lo) (h2 : Cell hi) : -170141183460469231731687303715884105728 ≤ S lo hi ∧ S lo hi < 170141183460469231731687303715884105728 := by
  unfold Cell at h1 h2; unfold S; omega

theorem fdiv_lit {n m : Int} (h : 0 ≤ m) : Int.fdiv n m = n / m := Int.fdiv_eq_ediv_of_nonneg _ h

/-! ### Add, Neg -/

theorem Add_eq (v w : Int) : dbl_Add (W v) (W (v / 18446744073709551616)) (W w) (W (w / 18446744073709551616)) = some (Pd (v + w)) := by
  unfold dbl_Add dbl_Add_t
  simp only [wu, wi]
  rw [decide_eq_true (by omega), decide_eq_true (by omega)]
  simp only [cond_true]
  unfold Pd W
  congr 2 <;> omega

theorem Add_S {a b c d : Int} (ha : Cell a) (hb : Cell b) (hc : Cell c) (hd : Cell d) : dbl_Add a b c d = some (Pd (S a b + S c d)) := by
  have h := Add_eq (S a b) (S c d)
  have e1 := Pd_S ha hb
  have e2 := Pd_S hc hd
  unfold Pd at e1 e2
  simp only [Prod.mk.injEq] at e1 e2
  rw [e1.1, e1.2, e2.1, e2.2] at h
  exact h

theorem xor_m1 {n : Int} (h : Cell n) : ibits .xor .i64 (-1) n = -1 - n := by
  have e : (BitVec.ofInt 64 (-1) ^^^ BitVec.ofInt 64 n) = ~~~ (BitVec.ofInt 64 n) := by
    rw [show BitVec.ofInt 64 (-1) = BitVec.allOnes 64 from by decide, BitVec.allOnes_xor]
  rw [ibits_def]
  show IntKind.wrap .i64 (((BitVec.ofInt 64 (-1) ^^^ BitVec.ofInt 64 n).toNat : Nat) : Int) = _
  rw [e, wi, BitVec.toNat_not, BitVec.toNat_ofInt]
  unfold Cell at h
  unfold W
  omega

theorem Neg_eq (v : Int) : dbl_Neg (W v) (W (v / 18446744073709551616)) = some (Pd (-v)) := by
  unfold dbl_Neg dbl_Neg_t
  rw [xor_m1 (W_cell _), xor_m1 (W_cell _)]
  have h := Add_eq (-1 - v) 1
  rw [show W (-1 - v) = -1 - W v from by unfold W; omega, show W ((-1 - v) / 18446744073709551616) = -1 - W (v / 18446744073709551616) from by unfold W; omega, show W 1 = 1 from by decide, show W (1 / 18446744073709551616) = 0 from by decide] at h
  rw [h]
  show some _ = some _
  rw [show -1 - v + 1 = -v from by omega]

theorem and_u64 {n m : Int} (h1 : 0 ≤ n) (h2 : n < 18446744073709551616) (k : Nat) (hm : m = 2 ^ k - 1) (hk : k < 64) : ibits .and .u64 n m = n % 2 ^ k := by
  rw [ibits_def]
  show IntKind.wrap .u64 (((BitVec.ofInt 64 n &&& BitVec.ofInt 64 m).toNat : Nat) : Int) = _
  have hk2 : (2:Int) ^ k = ((2 ^ k : Nat) : Int) := by norm_cast
  have hp : 0 < 2 ^ k := Nat.two_pow_pos k
  have hlt : 2 ^ k < 2 ^ 64 := Nat.pow_lt_pow_right (by decide) hk
  have e1 : (BitVec.ofInt 64 m).toNat = 2 ^ k - 1 := by
    rw [BitVec.toNat_ofInt, hm, hk2]
    have : ((2:Nat) ^ 64 : Nat) = 18446744073709551616 := by decide
    rw [this] at hlt ⊢
    omega
  have e2 : (BitVec.ofInt 64 n).toNat = n.toNat := by
    rw [BitVec.toNat_ofInt]
    have : ((2:Nat) ^ 64 : Nat) = 18446744073709551616 := by decide
    rw [this]
    omega
  rw [BitVec.toNat_and, e1, e2, Nat.and_two_pow_sub_one_eq_mod, wu, hk2]
  have e3 : ((n.toNat % 2 ^ k : Nat) : Int) = n % ((2 ^ k : Nat) : Int) := by
    rw [Int.natCast_emod, Int.toNat_of_nonneg h1]
  rw [e3]
  have := Int.emod_nonneg n (b := ((2 ^ k : Nat) : Int)) (by omega)
  have := Int.emod_lt_of_pos n (b := ((2 ^ k : Nat) : Int)) (by omega)
  have h64 : ((2:Nat) ^ 64 : Nat) = 18446744073709551616 := by decide
  omega

theorem mul64_eq {a b : Int} (ha : 0 ≤ a) (ha' : a < 18446744073709551616) (hb : 0 ≤ b) (hb' : b < 18446744073709551616) :
    mul64 a b = ((a * b) / 18446744073709551616, (a * b) % 18446744073709551616) := by
  unfold mul64
  simp only [wu, fdiv_lit (show (0:Int) ≤ 4294967296 by decide)]
  have m0 : ∀ n : Int, 0 ≤ n → n < 18446744073709551616 → ibits .and .u64 n 4294967295 = n % 4294967296 := fun n h1 h2 => and_u64 h1 h2 32 (by decide) (by decide)
  rw [m0 a ha ha', m0 b hb hb']
  have ea : a = 4294967296 * (a / 4294967296) + a % 4294967296 := by omega
  have eb : b = 4294967296 * (b / 4294967296) + b % 4294967296 := by omega
  have ra0 : 0 ≤ a % 4294967296 := by omega
  have ra1 : a % 4294967296 ≤ 4294967295 := by omega
  have rb0 : 0 ≤ b % 4294967296 := by omega
  have rb1 : b % 4294967296 ≤ 4294967295 := by omega
  have qa0 : 0 ≤ a / 4294967296 := by omega
  have qa1 : a / 4294967296 ≤ 4294967295 := by omega
  have qb0 : 0 ≤ b / 4294967296 := by omega
  have qb1 : b / 4294967296 ≤ 4294967295 := by omega
  generalize hA1 : a / 4294967296 = a1 at *
  generalize hA0 : a % 4294967296 = a0 at *
  generalize hB1 : b / 4294967296 = b1 at *
  generalize hB0 : b % 4294967296 = b0 at *
  have bound : ∀ {x y : Int}, 0 ≤ x → x ≤ 4294967295 → 0 ≤ y → y ≤ 4294967295 → 0 ≤ x * y ∧ x * y ≤ 18446744065119617025 := fun {x y} h1 h2 h3 h4 =>
    ⟨Int.mul_nonneg h1 h3, by
      have := Int.mul_le_mul h2 h4 h3 (by decide : (0:Int) ≤ 4294967295)
      omega⟩
  have eab : a * b = 18446744073709551616 * (a1 * b1) + 4294967296 * (a1 * b0) + 4294967296 * (a0 * b1) + a0 * b0 := by
    rw [ea, eb, Int.mul_add, Int.add_mul, Int.add_mul]
    have e1 : 4294967296 * a1 * (4294967296 * b1) = 18446744073709551616 * (a1 * b1) := by
      rw [Int.mul_assoc, Int.mul_left_comm a1, ← Int.mul_assoc]; rfl
    have e2 : 4294967296 * a1 * b0 = 4294967296 * (a1 * b0) := Int.mul_assoc _ _ _
    have e3 : a0 * (4294967296 * b1) = 4294967296 * (a0 * b1) := Int.mul_left_comm _ _ _
    rw [e1, e2, e3]
    omega
  rw [eab]
  have p1 := bound qa0 qa1 qb0 qb1
  have p2 := bound qa0 qa1 rb0 rb1
  have p3 := bound ra0 ra1 qb0 qb1
  have p4 := bound ra0 ra1 rb0 rb1
  generalize a1 * b1 = x at *
  generalize a1 * b0 = y at *
  generalize a0 * b1 = z at *
  generalize a0 * b0 = w at *
  clear eab ea eb hA1 hA0 hB1 hB0 bound
  rw [m0 _ (by omega) (by omega)]
  refine Prod.ext ?_ ?_ <;> simp only <;> omega


/-! ### A double, times a small number, and a small number more -/

theorem scaled_eq {v n m : Int} (hn : 0 ≤ n) (hn' : n < 9223372036854775808) (hm : 0 ≤ m) (hm' : m < 9223372036854775808) :
    num_scaled (W v) (W (v / 18446744073709551616)) n m = some (Pd (v * n + m)) := by
  unfold num_scaled num_scaled_t
  have e1 : IntKind.wrap IntKind.u64 (W v) = v % 18446744073709551616 := by rw [wu, mod_W]
  have e2 : IntKind.wrap IntKind.u64 n = n := by rw [wu]; omega
  rw [e1, e2, mul64_eq (by omega) (by omega) hn (by omega)]
  simp only [wi]
  have e3 : W (W (v % 18446744073709551616 * n / 18446744073709551616) + W (W (v / 18446744073709551616) * n)) = W ((v * n) / 18446744073709551616) := by
    rw [W_eq]
    have e4 : v * n = 18446744073709551616 * (v / 18446744073709551616 * n) + v % 18446744073709551616 * n := by
      rw [← Int.mul_assoc, ← Int.add_mul]; congr 1; omega
    have e5 : (v * n) / 18446744073709551616 = v / 18446744073709551616 * n + v % 18446744073709551616 * n / 18446744073709551616 := by
      rw [e4]; omega
    rw [e5]
    have e6 : ∀ x : Int, ∃ k, W x = x + 18446744073709551616 * k := fun x => ⟨-((x + 9223372036854775808) / 18446744073709551616), by unfold W; omega⟩
    obtain ⟨k1, h1⟩ := e6 (v / 18446744073709551616)
    obtain ⟨k2, h2⟩ := e6 (W (v / 18446744073709551616) * n)
    obtain ⟨k3, h3⟩ := e6 (v % 18446744073709551616 * n / 18446744073709551616)
    rw [h2, h3, h1, Int.add_mul, Int.mul_assoc]
    generalize v / 18446744073709551616 * n = x1
    generalize v % 18446744073709551616 * n / 18446744073709551616 = x2
    generalize k1 * n = x3
    omega
  have e7 : W (v % 18446744073709551616 * n % 18446744073709551616) = W (v * n) := by
    rw [W_mod, W_eq]
    have : v * n = 18446744073709551616 * (v / 18446744073709551616 * n) + v % 18446744073709551616 * n := by
      rw [← Int.mul_assoc, ← Int.add_mul]; congr 1; omega
    rw [this]
    generalize v / 18446744073709551616 * n = x1
    generalize v % 18446744073709551616 * n = x2
    omega
  have e8 := Add_eq (v * n) m
  have e9 : W m = m := W_of ⟨by omega, by omega⟩
  have e10 : W (m / 18446744073709551616) = 0 := by
    have : m / 18446744073709551616 = 0 := by omega
    rw [this]; rfl
  rw [e9, e10] at e8
  simp only [e3, e7]
  rw [e8]
  rfl

end Go.Proofs.Dbl
