/- Plain facts about doubles: what each function of the package comes to, as numbers. -/
import Derived.Test.YtbcijnfednjohaaPuXA
import Derived.IntWalk
import Derived.Laws.Bits64
namespace Go.Proofs.Dbl
open Go Go.TX Go.Proofs
set_option maxRecDepth 100000
set_option maxHeartbeats 0
set_option linter.unusedVariables false
set_option linter.unusedSimpArgs false

/-- A number as a cell holds it. -/
def W (x : Int) : Int := (x + 9223372036854775808) % 18446744073709551616 - 9223372036854775808
def Cell (x : Int) : Prop := -9223372036854775808 ≤ x ∧ x ≤ 9223372036854775807
/-- The number of a double. -/
def S (lo hi : Int) : Int := lo % 18446744073709551616 + 18446744073709551616 * hi
/-- A number as a double. -/
def Pd (v : Int) : Int × Int := (W v, W (v / 18446744073709551616))

theorem wi (n : Int) : IntKind.wrap .i64 n = W n := by
  have := IntWalk.i64_left n
  unfold RowKit.wrap64 at this
  unfold W
  omega
theorem wu (n : Int) : IntKind.wrap .u64 n = n % 18446744073709551616 := IntKind.wrap_u64 n

theorem W_cell (x : Int) : Cell (W x) := by unfold Cell W; omega
theorem W_of {x : Int} (h : Cell x) : W x = x := by unfold Cell at h; unfold W; omega
theorem W_W (x : Int) : W (W x) = W x := W_of (W_cell x)
theorem W_mod (x : Int) : W (x % 18446744073709551616) = W x := by unfold W; omega
theorem mod_W (x : Int) : W x % 18446744073709551616 = x % 18446744073709551616 := by unfold W; omega
theorem W_eq {x y : Int} : W x = W y ↔ (x - y) % 18446744073709551616 = 0 := by unfold W; omega

theorem Pd_S {lo hi : Int} (h1 : Cell lo) (h2 : Cell hi) : Pd (S lo hi) = (lo, hi) := by
  unfold Cell at h1 h2
  unfold Pd S W
  refine Prod.ext ?_ ?_ <;> simp only <;> omega
theorem S_Pd (v : Int) : S (W v) (W (v / 18446744073709551616)) = (v + 170141183460469231731687303715884105728) % 340282366920938463463374607431768211456 - 170141183460469231731687303715884105728 := by
  unfold S W; omega
theorem Pd_eq {v w : Int} : Pd v = Pd w ↔ (v - w) % 340282366920938463463374607431768211456 = 0 := by
  unfold Pd W
  simp only [Prod.mk.injEq]
  omega
theorem S_range {lo hi : Int} (h1 : Cell lo) (h2 : Cell hi) : -170141183460469231731687303715884105728 ≤ S lo hi ∧ S lo hi < 170141183460469231731687303715884105728 := by
  unfold Cell at h1 h2; unfold S; omega

theorem fdiv_lit {n m : Int} (h : 0 ≤ m) : Int.fdiv n m = n / m := Int.fdiv_eq_ediv_of_nonneg _ h

/-! ### Of, Add, Neg, Cmp -/

theorem Of_eq {n : Int} (h : Cell n) : dbl_Of n = Pd n := by
  unfold dbl_Of Pd W
  unfold Cell at h
  rw [fdiv_lit (by decide)]
  refine Prod.ext ?_ ?_ <;> simp only <;> omega

theorem Add_eq (v w : Int) : dbl_Add (W v) (W (v / 18446744073709551616)) (W w) (W (w / 18446744073709551616)) = some (Pd (v + w)) := by
  unfold dbl_Add dbl_Add_t
  simp only [wu, wi]
  rw [decide_eq_true (by omega), decide_eq_true (by omega)]
  simp only [cond_true]
  unfold Pd W
  congr 2 <;> omega

theorem Add_S {a b c d : Int} (ha : Cell a) (hb : Cell b) (hc : Cell c) (hd : Cell d) : dbl_Add a b c d = some (Pd (S a b + S c d)) := by
  have h := Add_eq (S a b) (S c d)
  have e1 := Pd_S ha hb
  have e2 := Pd_S hc hd
  unfold Pd at e1 e2
  simp only [Prod.mk.injEq] at e1 e2
  rw [e1.1, e1.2, e2.1, e2.2] at h
  exact h

theorem xor_m1 {n : Int} (h : Cell n) : ibits .xor .i64 (-1) n = -1 - n := by
  have e : (BitVec.ofInt 64 (-1) ^^^ BitVec.ofInt 64 n) = ~~~ (BitVec.ofInt 64 n) := by
    rw [show BitVec.ofInt 64 (-1) = BitVec.allOnes 64 from by decide, BitVec.allOnes_xor]
  show IntKind.wrap .i64 (((BitVec.ofInt 64 (-1) ^^^ BitVec.ofInt 64 n).toNat : Nat) : Int) = _
  rw [e, wi, BitVec.toNat_not, BitVec.toNat_ofInt]
  unfold Cell at h
  unfold W
  omega

theorem Neg_eq (v : Int) : dbl_Neg (W v) (W (v / 18446744073709551616)) = some (Pd (-v)) := by
  unfold dbl_Neg dbl_Neg_t
  rw [xor_m1 (W_cell _), xor_m1 (W_cell _)]
  have h := Add_eq (-1 - v) 1
  rw [show W (-1 - v) = -1 - W v from by unfold W; omega, show W ((-1 - v) / 18446744073709551616) = -1 - W (v / 18446744073709551616) from by unfold W; omega, show W 1 = 1 from by decide, show W (1 / 18446744073709551616) = 0 from by decide] at h
  rw [h]
  show some _ = some _
  rw [show -1 - v + 1 = -v from by omega]

end Go.Proofs.Dbl
