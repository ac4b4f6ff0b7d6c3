/- Plain facts about digits: what a digit is, and what a text of digits comes to. -/
import Derived.Test.YtfmdhcialeddaaaDoorNuPa
import Derived.Test.YtfmdhcialeddaaaDoorNuXC
import Derived.Laws.BytesString
import Derived.Laws.RangeAny
import Derived.Lib.RuneCount
namespace Go.Proofs.Dbl
open Go Go.TX Go.Proofs
set_option maxRecDepth 100000
set_option maxHeartbeats 0
set_option linter.unusedVariables false
set_option linter.unusedSimpArgs false

def goodB (b : Int) : Bool := decide (2 ≤ b ∧ b ≤ 36)

theorem good_eq (b : Int) : num_good b = some (goodB b) := by
  unfold num_good num_good_t goodB
  by_cases h : b ≥ 2
  · rw [decide_eq_true h]; simp only [cond_true]; congr 2; simp; omega
  · rw [decide_eq_false h]; simp only [cond_false]; congr 1; symm; rw [decide_eq_false_iff_not]; omega

/-- What a sign is worth, whatever the base. -/
def worth (c : Int) : Int := if 48 ≤ c ∧ c ≤ 57 then c - 48 else if 65 ≤ c ∧ c ≤ 90 then c - 55 else if 97 ≤ c ∧ c ≤ 122 then c - 87 else -1

def dig (c b : Int) : Option Int := if goodB b = true ∧ 0 ≤ worth c ∧ worth c < b then some (worth c) else none

theorem Digit_eq {c b : Int} (hc : Cell c) : num_Digit c b = some (match dig c b with | some v => (v, true) | none => (0, false)) := by
  have h3 : num_Digit_M3 c (-1) = some (worth c) := by
    have w1 : ∀ x : Int, -9223372036854775808 ≤ x → x ≤ 9223372036854775807 → IntKind.wrap IntKind.i64 x = x := fun x h1 h2 => by rw [wi]; exact W_of ⟨h1, h2⟩
    have two : ∀ (x y : Int), (cond (decide (c ≥ x)) (some (decide (c ≤ y))) (some false)) = some (decide (x ≤ c ∧ c ≤ y)) := fun x y => by
      by_cases h : c ≥ x
      · rw [decide_eq_true h]; simp only [cond_true]; congr 1; rw [decide_eq_decide]; omega
      · rw [decide_eq_false h]; simp only [cond_false]; congr 1; symm; rw [decide_eq_false_iff_not]; omega
    have e1 : num_Digit_M1 c = some (decide (48 ≤ c ∧ c ≤ 57)) := two 48 57
    have e2 : num_Digit_M2 c = some (decide (65 ≤ c ∧ c ≤ 90)) := two 65 90
    unfold num_Digit_M3 num_Digit_M3_t worth
    rw [e1, e2]
    unfold Cell at hc
    simp only [outOf]
    by_cases h1 : 48 ≤ c ∧ c ≤ 57
    · rw [decide_eq_true h1, if_pos h1, w1 _ (by omega) (by omega)]; rfl
    · rw [decide_eq_false h1, if_neg h1]
      by_cases h2 : 65 ≤ c ∧ c ≤ 90
      · rw [decide_eq_true h2, if_pos h2, w1 (c - 55) (by omega) (by omega)]; rfl
      · rw [decide_eq_false h2, if_neg h2]
        by_cases h5 : c ≥ 97
        · by_cases h6 : c ≤ 122
          · rw [decide_eq_true h5, decide_eq_true h6, if_pos ⟨h5, h6⟩, w1 (c - 55) (by omega) (by omega)]
            simp only [cond_true, cond_false]
            rw [w1 (c - 55 - 32) (by omega) (by omega)]; have e : c - 55 - 32 = c - 87 := by omega
            exact congrArg some e
          · rw [decide_eq_true h5, decide_eq_false h6, if_neg (by omega)]; rfl
        · rw [decide_eq_false h5, if_neg (by omega)]; rfl
  unfold num_Digit num_Digit_t
  rw [h3, good_eq]
  simp only [outOf]
  unfold dig
  cases hg : goodB b with
  | false => simp
  | true =>
    by_cases h1 : worth c < 0
    · rw [decide_eq_true h1, if_neg (by omega)]; rfl
    · rw [decide_eq_false h1]
      by_cases h2 : worth c ≥ b
      · rw [decide_eq_true h2, if_neg (by omega)]; rfl
      · rw [decide_eq_false h2, if_pos ⟨rfl, by omega, by omega⟩]; rfl

theorem dig_range {c b v : Int} (h : dig c b = some v) : 0 ≤ v ∧ v < b ∧ 2 ≤ b ∧ b ≤ 36 := by
  unfold dig at h
  split at h
  · rename_i h1
    cases h
    have := h1.1
    simp only [goodB, decide_eq_true_eq] at this
    exact ⟨h1.2.1, h1.2.2, this.1, this.2⟩
  · cases h

/-- The number of a text's digits, from a place on: none, where a sign is no digit. -/
def dgo (s : ByteArray) (b : Int) (p : Nat) (v : Int) : Option Int :=
  if h : p < s.size then
    match dig (runeAt s p) b with
    | none => none
    | some x => dgo s b (p + max 1 (runeW s p)) (v * b + x)
  else some v
termination_by s.size - p
decreasing_by omega

theorem rune_cell (s : ByteArray) (p : Nat) : Cell (runeAt s p) := by
  have := Go.decode_le s p
  unfold runeAt Cell
  omega

theorem dgo_end {s : ByteArray} {b : Int} {p : Nat} {v : Int} (h : ¬ p < s.size) : dgo s b p v = some v := by
  rw [dgo, dif_neg h]
theorem dgo_none {s : ByteArray} {b : Int} {p : Nat} {v : Int} (h : p < s.size) (hd : dig (runeAt s p) b = none) : dgo s b p v = none := by
  rw [dgo, dif_pos h, hd]
theorem dgo_some {s : ByteArray} {b x : Int} {p : Nat} {v : Int} (h : p < s.size) (hd : dig (runeAt s p) b = some x) : dgo s b p v = dgo s b (p + max 1 (runeW s p)) (v * b + x) := by
  rw [dgo, dif_pos h, hd]

theorem digits_loop (s : ByteArray) (b : Int) : ∀ (n p : Nat) (v : Int), s.size - p ≤ n →
    num_digits_L1 (s, b, 0, 0, W v, W (v / 18446744073709551616), s, p) =
      match dgo s b p v with
      | none => some (.inl (false, 0, 0))
      | some w => some (.inr (s, 0, 0, W w, W (w / 18446744073709551616)))
  | n, p, v, hn => by
    unfold num_digits_L1
    by_cases hp : p < s.size
    · cases hd : dig (runeAt s p) b with
      | none =>
        rw [dgo_none hp hd]
        refine runs_out ?_
        unfold num_digits_L1_pass num_digits_L1_t
        simp only
        rw [decide_eq_true hp, wi, W_of (rune_cell s p), Digit_eq (rune_cell s p), hd]
        rfl
      | some x =>
        rw [dgo_some hp hd]
        have hw := Lib.decode_width_pos s p hp
        have hx := dig_range hd
        have hm : max 1 (runeW s p) = runeW s p := by unfold runeW; omega
        have hp2 : num_digits_L1_pass (s, b, 0, 0, W v, W (v / 18446744073709551616), s, p) = some (.inl (s, b, 0, 0, W (v * b + x), W ((v * b + x) / 18446744073709551616), s, p + runeW s p)) := by
          unfold num_digits_L1_pass num_digits_L1_t
          simp only
          rw [decide_eq_true hp, wi, W_of (rune_cell s p), Digit_eq (rune_cell s p), hd]
          simp only [cond_true, outOf, Bool.not_true, cond_false]
          rw [scaled_eq (by omega) (by omega) (by omega) (by omega)]
          rfl
        rw [runs_next hp2, hm]
        match n with
        | 0 => omega
        | n + 1 => exact digits_loop s b n _ _ (by unfold runeW at hm ⊢; omega)
    · rw [dgo_end hp]
      refine runs_out ?_
      unfold num_digits_L1_pass num_digits_L1_t
      simp only
      rw [decide_eq_false hp]
      rfl

/-- A text, by its bytes. -/
def bs (l : List UInt8) : ByteArray := ⟨l.toArray⟩
theorem bs_data (l : List UInt8) : (bs l).data.toList = l := rfl
theorem bs_of (s : ByteArray) : s = bs s.data.toList := by cases s; rfl
theorem bs_size (l : List UInt8) : (bs l).size = l.length := rfl
theorem bs_toList (l : List UInt8) : ByteArray.toList (bs l) = l := Go.ByteArray.toList_eq (bs l)
theorem bs_inj {a b : ByteArray} (h : a.data.toList = b.data.toList) : a = b := by
  rw [bs_of a, bs_of b, h]
theorem bs_extract (l : List UInt8) (i j : Nat) : (bs l).extract i j = bs ((l.take j).drop i) := by
  apply bs_inj
  rw [ByteArray.data_extract, Array.toList_extract]
  show List.extract l i j = (l.take j).drop i
  simp [List.extract, List.drop_take]
theorem bs_append (l m : List UInt8) : bs l ++ bs m = bs (l ++ m) := by
  apply bs_inj
  rw [ByteArray.data_append, Array.toList_append]
  rfl
theorem bytesOf_bs (l : List Nat) : bytesOf l = bs (l.map UInt8.ofNat) := rfl

theorem digits_eq (l : List UInt8) (b : Int) : num_digits (bs l) b = some (match dgo (bs l) b 0 0 with | none => (0, 0, false) | some v => (W v, W (v / 18446744073709551616), !(l == []))) := by
  have h := digits_loop (bs l) b _ 0 0 (Nat.le_refl _)
  have e0 : W 0 = 0 := by decide
  rw [show (0:Int) / 18446744073709551616 = 0 by decide, e0] at h
  unfold num_digits num_digits_t
  rw [h]
  cases dgo (bs l) b 0 0 with
  | none => rfl
  | some v =>
    simp only [outOf, sumOf]
    rw [bs_toList, bytesOf_bs, bs_toList]
    rfl

end Go.Proofs.Dbl
