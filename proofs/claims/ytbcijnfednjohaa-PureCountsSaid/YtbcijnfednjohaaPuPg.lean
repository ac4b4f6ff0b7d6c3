/- Plain facts about single operations: what each does with the top of the stack. -/
import Derived.Test.YtbcijnfednjohaaPuXD
import Derived.Test.YtbcijnfednjohaaPuPf
namespace Go.Proofs.Dbl
open Go Go.TX Go.Proofs
set_option maxRecDepth 100000
set_option maxHeartbeats 0
set_option linter.unusedVariables false
set_option linter.unusedSimpArgs false

theorem popX {r x : List Int} {n : Nat} (hn : x.length = n) (h : r.length + n ≤ 1000) : stk_Pop (r ++ x) (n : Int) = some (r, x, 0) := by
  rw [Pop_eq (by simp; omega) (by simp; omega)]
  have e : (r ++ x).length - n = r.length := by simp; omega
  rw [e, List.take_left, List.drop_left]

/-- What is left of a stack: of an operation that takes x off and tells y, or throws. -/
def fin (r x y : List Int) (e : Int) : List Int × Int := if e ≠ 0 then (r ++ x, e) else if 64 < r.length + y.length then (r ++ x, -3) else (r ++ y, 0)

theorem tail0 {r x y : List Int} (hr : r.length ≤ 64) (hy : y.length ≤ 100) :
    (outOf (stk_Push r 64 y) fun (v : List Int × Int) => cond (v.2 != 0) (cond (v.2 != 0) (some (r ++ x, v.2)) (some (r ++ x, (0 : Int)))) (some (v.1, (0 : Int)))) = some (fin r x y 0) := by
  rw [Push_eq (by omega) (by omega)]
  unfold fin
  by_cases h : 64 < r.length + y.length
  · rw [if_pos h, if_neg (by simp), if_pos h]; rfl
  · rw [if_neg h, if_neg (by simp), if_neg h]; rfl

theorem tailE {r x y : List Int} {e : Int} (hr : r.length ≤ 64) (hy : y.length ≤ 100) (hxy : r.length + y.length ≤ 64 ∨ e = 0) :
    (outOf (stk_Push r 64 y) fun (v : List Int × Int) => cond (v.2 != 0) (cond (v.2 != 0) (some (r ++ x, v.2)) (some (r ++ x, (0 : Int)))) (cond (e != 0) (some (r ++ x, e)) (some (v.1, (0 : Int))))) = some (fin r x y e) := by
  rw [Push_eq (by omega) (by omega)]
  unfold fin
  by_cases h : 64 < r.length + y.length
  · have he : e = 0 := by omega
    rw [if_pos h, if_neg (by simp [he]), if_pos h]; rfl
  · rw [if_neg h]
    by_cases he : e = 0
    · rw [if_neg (by simp [he]), if_neg h]; simp [he]
    · rw [if_pos he]
      simp only [outOf_some, bne_self_eq_false, cond_false]
      rw [show (e != 0) = true from by simpa using he]; rfl

theorem popX1 {r : List Int} {a : Int} (h : r.length + 1 ≤ 64) : stk_Pop (r ++ [a]) 1 = some (r, [a], 0) := popX (n := 1) rfl (by omega)
theorem popX2 {r : List Int} {a b : Int} (h : r.length + 2 ≤ 64) : stk_Pop (r ++ [a, b]) 2 = some (r, [a, b], 0) := popX (n := 2) rfl (by omega)
theorem popX3 {r : List Int} {a b c : Int} (h : r.length + 3 ≤ 64) : stk_Pop (r ++ [a, b, c]) 3 = some (r, [a, b, c], 0) := popX (n := 3) rfl (by omega)
theorem popX4 {r : List Int} {a b c d : Int} (h : r.length + 4 ≤ 64) : stk_Pop (r ++ [a, b, c, d]) 4 = some (r, [a, b, c, d], 0) := popX (n := 4) rfl (by omega)

theorem permX {r x to : List Int} {n : Nat} (hx : x.length = n) (h : r.length + n ≤ 64) (hto : ∀ k ∈ to, 0 ≤ k ∧ k < (n : Int)) (hl : to.length ≤ 100) :
    (outOf (stk_Permute (r ++ x) (n : Int) to 64) fun (v : List Int × Int) => cond (v.2 != 0) (some (r ++ x, v.2)) (some (v.1, (0 : Int)))) = some (fin r x (picks x to) 0) := by
  rw [Permute_eq (by simp; omega) (by simp; omega) hto (by omega)]
  have e : (r ++ x).length - n = r.length := by simp; omega
  have hp : (picks x to).length = to.length := by simp [picks]
  rw [e, List.take_left, List.drop_left]
  unfold fin
  rw [hp]
  by_cases g : 64 < r.length + to.length
  · rw [if_pos g, if_neg (by simp)]; rfl
  · rw [if_neg g, if_neg (by simp)]; rfl

theorem flag_eq (b : Bool) : cell_Flag b = some (if b then -1 else 0) := by
  cases b <;> rfl

theorem dk_18 {r : List Int} {a : Int} (h : r.length + 1 ≤ 64) : Do_18 (r ++ [a]) = some (fin r [a] [a, a] 0) := by
  unfold Do_18 Do_18_t
  rw [cf (by simp; omega), cf (by simp; omega)]
  exact permX (x := [a]) (n := 1) (to := [0, 0]) rfl (by omega) (by decide) (by decide)

theorem dk_20 {r : List Int} {a b : Int} (h : r.length + 2 ≤ 64) : Do_20 (r ++ [a, b]) = some (fin r [a, b] [b, a] 0) := by
  unfold Do_20 Do_20_t
  rw [cf (by simp; omega), cf (by simp; omega)]
  exact permX (x := [a, b]) (n := 2) (to := [1, 0]) rfl (by omega) (by decide) (by decide)

theorem dk_22 {r : List Int} {a b c : Int} (h : r.length + 3 ≤ 64) : Do_22 (r ++ [a, b, c]) = some (fin r [a, b, c] [b, c, a] 0) := by
  unfold Do_22 Do_22_t
  rw [cf (by simp; omega), cf (by simp; omega)]
  exact permX (x := [a, b, c]) (n := 3) (to := [1, 2, 0]) rfl (by omega) (by decide) (by decide)

theorem dk_24 {r : List Int} {a b : Int} (h : r.length + 2 ≤ 64) : Do_24 (r ++ [a, b]) = some (fin r [a, b] [b, a, b] 0) := by
  unfold Do_24 Do_24_t
  rw [cf (by simp; omega), cf (by simp; omega)]
  exact permX (x := [a, b]) (n := 2) (to := [1, 0, 1]) rfl (by omega) (by decide) (by decide)

theorem dk_25 {r : List Int} {a b : Int} (h : r.length + 2 ≤ 64) : Do_25 (r ++ [a, b]) = some (fin r [a, b] [a, b, a, b] 0) := by
  unfold Do_25 Do_25_t
  rw [cf (by simp; omega), cf (by simp; omega)]
  exact permX (x := [a, b]) (n := 2) (to := [0, 1, 0, 1]) rfl (by omega) (by decide) (by decide)

theorem dk_27 {r : List Int} {a b c d : Int} (h : r.length + 4 ≤ 64) : Do_27 (r ++ [a, b, c, d]) = some (fin r [a, b, c, d] [c, d, a, b] 0) := by
  unfold Do_27 Do_27_t
  rw [cf (by simp; omega), cf (by simp; omega)]
  exact permX (x := [a, b, c, d]) (n := 4) (to := [2, 3, 0, 1]) rfl (by omega) (by decide) (by decide)

theorem dk_33 {r : List Int} {a b : Int} (h : r.length + 2 ≤ 64) : Do_33 (r ++ [a, b]) = some (fin r [a, b] [W (a + b)] 0) := by
  unfold Do_33 Do_33_t
  rw [cf (by simp; omega), cf (by simp; omega), popX2 h]
  simp only [outOf_some]
  rw [ct (by simp), ct (by simp)]
  simp only [wi]
  exact tail0 (by omega) (by simp)

theorem dk_34 {r : List Int} {a b : Int} (h : r.length + 2 ≤ 64) : Do_34 (r ++ [a, b]) = some (fin r [a, b] [W (a - b)] 0) := by
  unfold Do_34 Do_34_t
  rw [cf (by simp; omega), cf (by simp; omega), popX2 h]
  simp only [outOf_some]
  rw [ct (by simp), ct (by simp)]
  simp only [wi]
  exact tail0 (by omega) (by simp)

theorem dk_35 {r : List Int} {a b : Int} (h : r.length + 2 ≤ 64) : Do_35 (r ++ [a, b]) = some (fin r [a, b] [W (a * b)] 0) := by
  unfold Do_35 Do_35_t
  rw [cf (by simp; omega), cf (by simp; omega), popX2 h]
  simp only [outOf_some]
  rw [ct (by simp), ct (by simp)]
  simp only [wi]
  exact tail0 (by omega) (by simp)

theorem dk_41 {r : List Int} {a : Int} (h : r.length + 1 ≤ 64) : Do_41 (r ++ [a]) = some (fin r [a] [W (a + 1)] 0) := by
  unfold Do_41 Do_41_t
  rw [cf (by simp; omega), cf (by simp; omega), popX1 h]
  simp only [outOf_some]
  rw [ct (by simp)]
  simp only [wi]
  exact tail0 (by omega) (by simp)

theorem dk_42 {r : List Int} {a : Int} (h : r.length + 1 ≤ 64) : Do_42 (r ++ [a]) = some (fin r [a] [W (a - 1)] 0) := by
  unfold Do_42 Do_42_t
  rw [cf (by simp; omega), cf (by simp; omega), popX1 h]
  simp only [outOf_some]
  rw [ct (by simp)]
  simp only [wi]
  exact tail0 (by omega) (by simp)

theorem dk_72 {r : List Int} {a : Int} (h : r.length + 1 ≤ 64) : Do_72 (r ++ [a]) = some (fin r [a] [W (a + 8)] 0) := by
  unfold Do_72 Do_72_t
  rw [cf (by simp; omega), cf (by simp; omega), popX1 h]
  simp only [outOf_some]
  rw [ct (by simp)]
  simp only [wi]
  exact tail0 (by omega) (by simp)

theorem dk_45 {r : List Int} {a : Int} (h : r.length + 1 ≤ 64) : Do_45 (r ++ [a]) = some (fin r [a] [W (0 - a)] 0) := by
  unfold Do_45 Do_45_t
  rw [cf (by simp; omega), cf (by simp; omega), popX1 h]
  simp only [outOf_some]
  rw [ct (by simp)]
  simp only [wi]
  exact tail0 (by omega) (by simp)

theorem dk_52 {r : List Int} {a : Int} (h : r.length + 1 ≤ 64) : Do_52 (r ++ [a]) = some (fin r [a] [ibits .xor .i64 (-1) a] 0) := by
  unfold Do_52 Do_52_t
  rw [cf (by simp; omega), cf (by simp; omega), popX1 h]
  simp only [outOf_some]
  rw [ct (by simp)]
  exact tail0 (by omega) (by simp)

theorem dk_49 {r : List Int} {a b : Int} (h : r.length + 2 ≤ 64) : Do_49 (r ++ [a, b]) = some (fin r [a, b] [ibits .and .i64 a b] 0) := by
  unfold Do_49 Do_49_t
  rw [cf (by simp; omega), cf (by simp; omega), popX2 h]
  simp only [outOf_some]
  rw [ct (by simp), ct (by simp)]
  exact tail0 (by omega) (by simp)

theorem dk_50 {r : List Int} {a b : Int} (h : r.length + 2 ≤ 64) : Do_50 (r ++ [a, b]) = some (fin r [a, b] [ibits .or .i64 a b] 0) := by
  unfold Do_50 Do_50_t
  rw [cf (by simp; omega), cf (by simp; omega), popX2 h]
  simp only [outOf_some]
  rw [ct (by simp), ct (by simp)]
  exact tail0 (by omega) (by simp)

theorem dk_51 {r : List Int} {a b : Int} (h : r.length + 2 ≤ 64) : Do_51 (r ++ [a, b]) = some (fin r [a, b] [ibits .xor .i64 a b] 0) := by
  unfold Do_51 Do_51_t
  rw [cf (by simp; omega), cf (by simp; omega), popX2 h]
  simp only [outOf_some]
  rw [ct (by simp), ct (by simp)]
  exact tail0 (by omega) (by simp)

theorem dk_55 {r : List Int} {a b : Int} (h : r.length + 2 ≤ 64) : Do_55 (r ++ [a, b]) = some (fin r [a, b] [if a == b then -1 else 0] 0) := by
  unfold Do_55 Do_55_t
  rw [cf (by simp; omega), cf (by simp; omega), popX2 h]
  simp only [outOf_some]
  rw [ct (by simp), ct (by simp)]
  rw [flag_eq]
  simp only [outOf_some]
  exact tail0 (by omega) (by simp)

theorem dk_56 {r : List Int} {a b : Int} (h : r.length + 2 ≤ 64) : Do_56 (r ++ [a, b]) = some (fin r [a, b] [if a != b then -1 else 0] 0) := by
  unfold Do_56 Do_56_t
  rw [cf (by simp; omega), cf (by simp; omega), popX2 h]
  simp only [outOf_some]
  rw [ct (by simp), ct (by simp)]
  rw [flag_eq]
  simp only [outOf_some]
  exact tail0 (by omega) (by simp)

theorem dk_57 {r : List Int} {a b : Int} (h : r.length + 2 ≤ 64) : Do_57 (r ++ [a, b]) = some (fin r [a, b] [if decide (a < b) then -1 else 0] 0) := by
  unfold Do_57 Do_57_t
  rw [cf (by simp; omega), cf (by simp; omega), popX2 h]
  simp only [outOf_some]
  rw [ct (by simp), ct (by simp)]
  rw [flag_eq]
  simp only [outOf_some]
  exact tail0 (by omega) (by simp)

theorem dk_58 {r : List Int} {a b : Int} (h : r.length + 2 ≤ 64) : Do_58 (r ++ [a, b]) = some (fin r [a, b] [if decide (a > b) then -1 else 0] 0) := by
  unfold Do_58 Do_58_t
  rw [cf (by simp; omega), cf (by simp; omega), popX2 h]
  simp only [outOf_some]
  rw [ct (by simp), ct (by simp)]
  rw [flag_eq]
  simp only [outOf_some]
  exact tail0 (by omega) (by simp)

theorem dk_60 {r : List Int} {a : Int} (h : r.length + 1 ≤ 64) : Do_60 (r ++ [a]) = some (fin r [a] [if a == 0 then -1 else 0] 0) := by
  unfold Do_60 Do_60_t
  rw [cf (by simp; omega), cf (by simp; omega), popX1 h]
  simp only [outOf_some]
  rw [ct (by simp)]
  rw [flag_eq]
  simp only [outOf_some]
  exact tail0 (by omega) (by simp)

theorem runs_stuck {D X : Type} {pass : D → Option (D ⊕ X)} {d : D} (h : pass d = none) : runs pass d = none := by
  cases hr : runs pass d with
  | none => rfl
  | some x =>
    obtain ⟨n, hn⟩ := runs_some hr
    cases n with
    | zero => simp [iter] at hn
    | succ n => unfold iter at hn; rw [h] at hn; cases hn
end Go.Proofs.Dbl
