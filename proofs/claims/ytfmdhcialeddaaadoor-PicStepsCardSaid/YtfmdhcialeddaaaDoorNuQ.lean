/- Plain facts about the document's doubles: digit of two by digit of two. -/
import Derived.Test.YtfmdhcialeddaaaDoorNuP
import Derived.Test.YtfmdhcialeddaaaDoorNuXG
namespace Go.Proofs.Dbl
open Go Go.TX Go.Proofs
set_option maxRecDepth 100000
set_option maxHeartbeats 0
set_option linter.unusedVariables false
set_option linter.unusedSimpArgs false
def D (lo hi : Int) : Int := lo % 18446744073709551616 + 18446744073709551616 * (hi % 18446744073709551616)
theorem D_range (lo hi : Int) : 0 ≤ D lo hi ∧ D lo hi < 340282366920938463463374607431768211456 := by unfold D; omega
theorem two_pos (n : Nat) : (0 : Int) < 2 ^ n := Int.pow_pos (by decide)
end Go.Proofs.Dbl

/- Plain facts about the document's doubles: sums, and what is below what. -/
namespace Go.Proofs.Dbl
open Go Go.TX Go.Proofs
set_option maxRecDepth 100000
set_option maxHeartbeats 0
set_option linter.unusedVariables false
set_option linter.unusedSimpArgs false
/-- What is carried into digit i. -/
def carry (X Y : Int) (i : Nat) : Int := (X % 2 ^ i + Y % 2 ^ i) / 2 ^ i
end Go.Proofs.Dbl

/- Plain facts about the document's doubles: products and quotients. -/
namespace Go.Proofs.Dbl
open Go Go.TX Go.Proofs
set_option maxRecDepth 100000
set_option maxHeartbeats 0
set_option linter.unusedVariables false
set_option linter.unusedSimpArgs false
end Go.Proofs.Dbl

/- Plain facts: the document's digit, sign, and products. -/
namespace Go.Proofs.Dbl
open Go Go.TX Go.Proofs
set_option maxRecDepth 100000
set_option maxHeartbeats 0
set_option linter.unusedVariables false
set_option linter.unusedSimpArgs false
/-- A sign's place among the document's signs. -/
def sw (c : Int) : Int := if 48 ≤ c ∧ c ≤ 57 then c - 48 else if 65 ≤ c ∧ c ≤ 90 then c - 55 else -1
end Go.Proofs.Dbl

/- Plain facts: the document's number of a text. -/
namespace Go.Proofs.Dbl
open Go Go.TX Go.Proofs
set_option maxRecDepth 100000
set_option maxHeartbeats 0
set_option linter.unusedVariables false
set_option linter.unusedSimpArgs false
end Go.Proofs.Dbl

/- Plain facts: the document's texts; NumIs holds. -/
namespace Go.Proofs.Dbl
open Go Go.TX Go.Proofs
set_option maxRecDepth 100000
set_option maxHeartbeats 0
set_option linter.unusedVariables false
set_option linter.unusedSimpArgs false
theorem un_low (u : Nat) : lo_ u % 18446744073709551616 = (u : Int) % 18446744073709551616 := by unfold lo_; rw [mod_W]
theorem un_high {u : Nat} (hu : u < 340282366920938463463374607431768211456) : hi_ u % 18446744073709551616 = (u : Int) / 18446744073709551616 := by
  unfold hi_; rw [mod_W]; exact Int.emod_eq_of_lt (by omega) (by omega)
end Go.Proofs.Dbl
