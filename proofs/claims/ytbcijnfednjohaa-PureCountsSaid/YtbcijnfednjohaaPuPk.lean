/- Plain facts about single operations: what each tells are cells, as many as it is said. -/
import Derived.Test.YtbcijnfednjohaaPuPj
namespace Go.Proofs.Dbl
open Go Go.TX Go.Proofs
set_option maxRecDepth 100000
set_option maxHeartbeats 0
set_option linter.unusedVariables false
set_option linter.unusedSimpArgs false

def AllC : List Int → Prop
  | [] => True
  | a :: l => Cell a ∧ AllC l

/-- Of n cells on top of a stack an operation tells m, or throws. -/
def Tells (k n m : Nat) : Prop := ∀ X : List Int, X.length = n → AllC X → ∃ (Y : List Int) (e : Int), AllC Y ∧ Y.length = m ∧ (e ≠ 0 → m ≤ n) ∧ ∀ r : List Int, r.length + n ≤ 64 → Do_tab k (r ++ X) = some (fin r X Y e)

theorem m1_cell : Cell (-1) := by unfold Cell; omega
theorem ite_cell {p : Prop} [Decidable p] {x y : Int} (hx : Cell x) (hy : Cell y) : Cell (if p then x else y) := by split <;> assumption
theorem half_cell {a : Int} (h : Cell a) : Cell (Int.fdiv a 2) := by rw [fdiv_lit (by decide)]; unfold Cell at *; omega
theorem bits_cell_and (a b : Int) : Cell (ibits .and .i64 a b) := by
  show Cell (IntKind.wrap .i64 _); rw [wi]; exact W_cell _
theorem bits_cell_or (a b : Int) : Cell (ibits .or .i64 a b) := by
  show Cell (IntKind.wrap .i64 _); rw [wi]; exact W_cell _
theorem bits_cell_xor (a b : Int) : Cell (ibits .xor .i64 a b) := by
  show Cell (IntKind.wrap .i64 _); rw [wi]; exact W_cell _
theorem aligned_cell (a : Int) : Cell (cell_Aligned a) := by
  unfold cell_Aligned
  show Cell (IntKind.wrap .i64 _); rw [wi]; exact W_cell _
theorem UM_cell (a b c : Int) : Cell (UM a b c).1 ∧ Cell (UM a b c).2.1 := by
  unfold UM
  split
  · exact ⟨zero_cell, zero_cell⟩
  · split
    · exact ⟨W_cell _, W_cell _⟩
    · exact ⟨zero_cell, zero_cell⟩
theorem fmod_cell {s c : Int} (hc : Cell c) (h0 : c ≠ 0) : Cell (s.fmod c) := by
  have h2 := Int.emod_nonneg s h0
  have h3 : s % c < c.natAbs := by
    have := Int.emod_lt_of_pos s (b := (c.natAbs : Int)) (by omega)
    rcases Int.natAbs_eq c with h | h
    · rw [h]; simpa using this
    · rw [h, Int.emod_neg]; simpa using this
  rw [Int.fmod_eq_emod]
  unfold Cell at *
  split <;> omega
theorem Sy_cell {a b c : Int} (ha : Cell a) (hb : Cell b) (hc : Cell c) : Cell (Sy a b c).1 ∧ Cell (Sy a b c).2.1 := by
  unfold Sy
  by_cases h0 : c = 0
  · rw [if_pos h0]; exact ⟨zero_cell, zero_cell⟩
  · rw [if_neg h0]
    by_cases h : Cell ((S a b).tdiv c)
    · rw [if_pos h]
      have := (tmod_facts (S a b) c h0).1
      exact ⟨by unfold Cell at *; simp only; omega, h⟩
    · rw [if_neg h]; exact ⟨zero_cell, zero_cell⟩
theorem FlD_cell {a b c : Int} (ha : Cell a) (hb : Cell b) (hc : Cell c) : Cell (FlD a b c).1 ∧ Cell (FlD a b c).2.1 := by
  unfold FlD
  by_cases h0 : c = 0
  · rw [if_pos h0]; exact ⟨zero_cell, zero_cell⟩
  · rw [if_neg h0]
    by_cases h : Cell ((S a b).fdiv c)
    · rw [if_pos h]; exact ⟨fmod_cell hc h0, h⟩
    · rw [if_neg h]; exact ⟨zero_cell, zero_cell⟩
theorem Fl3_cell {a b c : Int} (ha : Cell a) (hb : Cell b) (hc : Cell c) : Cell (Fl3 a b c).1 ∧ Cell (Fl3 a b c).2.1 := by
  unfold Fl3
  by_cases h0 : c = 0
  · rw [if_pos h0]; exact ⟨zero_cell, zero_cell⟩
  · rw [if_neg h0]
    by_cases h : Cell ((a * b).fdiv c)
    · rw [if_pos h]; exact ⟨fmod_cell hc h0, h⟩
    · rw [if_neg h]; exact ⟨zero_cell, zero_cell⟩
theorem fdiv_cell {a c : Int} (ha : Cell a) (hc : Cell c) (h0 : c ≠ 0) (h : ¬ (c = -1 ∧ a = -9223372036854775808)) : Cell (a.fdiv c) := by
  have hq := tdiv_cell ha hc h
  obtain ⟨e1, e2⟩ := fdiv_of_tdiv (S := a) (n := c) (hi := a) h0 Iff.rfl
  rw [e1]
  split
  · rename_i g
    obtain ⟨g, g2⟩ := g
    have := Int.natAbs_tdiv a c
    have hb2 : c ≠ 1 := fun h => g (by rw [h, Int.tmod_one])
    have hb3 : c ≠ -1 := fun h => g (by rw [h, Int.tmod_neg, Int.tmod_one])
    have h6 : a.natAbs / c.natAbs ≤ a.natAbs / 2 := Nat.div_le_div_left (by omega) (by omega)
    have h7 : (a.tdiv c).natAbs = a.natAbs / c.natAbs := this
    unfold Cell at *
    omega
  · exact hq
theorem F_cell {a b : Int} (ha : Cell a) (hb : Cell b) : Cell (F a b).1 ∧ Cell (F a b).2.1 := by
  unfold F
  by_cases h0 : b = 0
  · rw [if_pos h0]; exact ⟨zero_cell, zero_cell⟩
  · rw [if_neg h0]
    by_cases h : b = -1 ∧ a = -9223372036854775808
    · rw [if_pos h]; exact ⟨zero_cell, zero_cell⟩
    · rw [if_neg h]; exact ⟨fdiv_cell ha hb h0 h, fmod_cell hb h0⟩

theorem tl_18 : Tells 18 1 2 := fun X hX hc => match X, hX, hc with | [a], _, ⟨ha, _⟩ => ⟨[a, a], 0, ⟨ha, ⟨ha, trivial⟩⟩, rfl, fun h => absurd rfl h, fun r h => dk_18 h⟩
theorem tl_19 : Tells 19 1 0 := fun X hX hc => match X, hX, hc with | [a], _, ⟨ha, _⟩ => ⟨[], 0, trivial, rfl, fun h => absurd rfl h, fun r h => dk_19 h⟩
theorem tl_20 : Tells 20 2 2 := fun X hX hc => match X, hX, hc with | [a, b], _, ⟨ha, hb, _⟩ => ⟨[b, a], 0, ⟨hb, ⟨ha, trivial⟩⟩, rfl, fun h => absurd rfl h, fun r h => dk_20 h⟩
theorem tl_21 : Tells 21 2 3 := fun X hX hc => match X, hX, hc with | [a, b], _, ⟨ha, hb, _⟩ => ⟨[a, b, a], 0, ⟨ha, ⟨hb, ⟨ha, trivial⟩⟩⟩, rfl, fun h => absurd rfl h, fun r h => dk_21 h⟩
theorem tl_22 : Tells 22 3 3 := fun X hX hc => match X, hX, hc with | [a, b, c], _, ⟨ha, hb, hc, _⟩ => ⟨[b, c, a], 0, ⟨hb, ⟨hc, ⟨ha, trivial⟩⟩⟩, rfl, fun h => absurd rfl h, fun r h => dk_22 h⟩
theorem tl_23 : Tells 23 2 1 := fun X hX hc => match X, hX, hc with | [a, b], _, ⟨ha, hb, _⟩ => ⟨[b], 0, ⟨hb, trivial⟩, rfl, fun h => absurd rfl h, fun r h => dk_23 h⟩
theorem tl_24 : Tells 24 2 3 := fun X hX hc => match X, hX, hc with | [a, b], _, ⟨ha, hb, _⟩ => ⟨[b, a, b], 0, ⟨hb, ⟨ha, ⟨hb, trivial⟩⟩⟩, rfl, fun h => absurd rfl h, fun r h => dk_24 h⟩
theorem tl_25 : Tells 25 2 4 := fun X hX hc => match X, hX, hc with | [a, b], _, ⟨ha, hb, _⟩ => ⟨[a, b, a, b], 0, ⟨ha, ⟨hb, ⟨ha, ⟨hb, trivial⟩⟩⟩⟩, rfl, fun h => absurd rfl h, fun r h => dk_25 h⟩
theorem tl_26 : Tells 26 2 0 := fun X hX hc => match X, hX, hc with | [a, b], _, ⟨ha, hb, _⟩ => ⟨[], 0, trivial, rfl, fun h => absurd rfl h, fun r h => dk_26 h⟩
theorem tl_27 : Tells 27 4 4 := fun X hX hc => match X, hX, hc with | [a, b, c, d], _, ⟨ha, hb, hc, hd, _⟩ => ⟨[c, d, a, b], 0, ⟨hc, ⟨hd, ⟨ha, ⟨hb, trivial⟩⟩⟩⟩, rfl, fun h => absurd rfl h, fun r h => dk_27 h⟩
theorem tl_28 : Tells 28 4 6 := fun X hX hc => match X, hX, hc with | [a, b, c, d], _, ⟨ha, hb, hc, hd, _⟩ => ⟨[a, b, c, d, a, b], 0, ⟨ha, ⟨hb, ⟨hc, ⟨hd, ⟨ha, ⟨hb, trivial⟩⟩⟩⟩⟩⟩, rfl, fun h => absurd rfl h, fun r h => dk_28 h⟩
theorem tl_33 : Tells 33 2 1 := fun X hX hc => match X, hX, hc with | [a, b], _, ⟨ha, hb, _⟩ => ⟨[W (a + b)], 0, ⟨W_cell _, trivial⟩, rfl, fun h => absurd rfl h, fun r h => dk_33 h⟩
theorem tl_34 : Tells 34 2 1 := fun X hX hc => match X, hX, hc with | [a, b], _, ⟨ha, hb, _⟩ => ⟨[W (a - b)], 0, ⟨W_cell _, trivial⟩, rfl, fun h => absurd rfl h, fun r h => dk_34 h⟩
theorem tl_35 : Tells 35 2 1 := fun X hX hc => match X, hX, hc with | [a, b], _, ⟨ha, hb, _⟩ => ⟨[W (a * b)], 0, ⟨W_cell _, trivial⟩, rfl, fun h => absurd rfl h, fun r h => dk_35 h⟩
theorem tl_41 : Tells 41 1 1 := fun X hX hc => match X, hX, hc with | [a], _, ⟨ha, _⟩ => ⟨[W (a + 1)], 0, ⟨W_cell _, trivial⟩, rfl, fun h => absurd rfl h, fun r h => dk_41 h⟩
theorem tl_42 : Tells 42 1 1 := fun X hX hc => match X, hX, hc with | [a], _, ⟨ha, _⟩ => ⟨[W (a - 1)], 0, ⟨W_cell _, trivial⟩, rfl, fun h => absurd rfl h, fun r h => dk_42 h⟩
theorem tl_72 : Tells 72 1 1 := fun X hX hc => match X, hX, hc with | [a], _, ⟨ha, _⟩ => ⟨[W (a + 8)], 0, ⟨W_cell _, trivial⟩, rfl, fun h => absurd rfl h, fun r h => dk_72 h⟩
theorem tl_45 : Tells 45 1 1 := fun X hX hc => match X, hX, hc with | [a], _, ⟨ha, _⟩ => ⟨[W (0 - a)], 0, ⟨W_cell _, trivial⟩, rfl, fun h => absurd rfl h, fun r h => dk_45 h⟩
theorem tl_43 : Tells 43 1 1 := fun X hX hc => match X, hX, hc with | [a], _, ⟨ha, _⟩ => ⟨[W (a * 2)], 0, ⟨W_cell _, trivial⟩, rfl, fun h => absurd rfl h, fun r h => dk_43 h⟩
theorem tl_71 : Tells 71 1 1 := fun X hX hc => match X, hX, hc with | [a], _, ⟨ha, _⟩ => ⟨[W (a * 8)], 0, ⟨W_cell _, trivial⟩, rfl, fun h => absurd rfl h, fun r h => dk_71 h⟩
theorem tl_73 : Tells 73 1 1 := fun X hX hc => match X, hX, hc with | [a], _, ⟨ha, _⟩ => ⟨[W (a + 1)], 0, ⟨W_cell _, trivial⟩, rfl, fun h => absurd rfl h, fun r h => dk_73 h⟩
theorem tl_36 : Tells 36 2 1 := fun X hX hc => match X, hX, hc with | [a, b], _, ⟨ha, hb, _⟩ => ⟨[(F a b).1], (F a b).2.2, ⟨(F_cell ha hb).1, trivial⟩, rfl, fun _ => by decide, fun r h => dk_36 h ha hb⟩
theorem tl_37 : Tells 37 2 1 := fun X hX hc => match X, hX, hc with | [a, b], _, ⟨ha, hb, _⟩ => ⟨[(F a b).2.1], (F a b).2.2, ⟨(F_cell ha hb).2, trivial⟩, rfl, fun _ => by decide, fun r h => dk_37 h ha hb⟩
theorem tl_38 : Tells 38 2 2 := fun X hX hc => match X, hX, hc with | [a, b], _, ⟨ha, hb, _⟩ => ⟨[(F a b).2.1, (F a b).1], (F a b).2.2, ⟨(F_cell ha hb).2, ⟨(F_cell ha hb).1, trivial⟩⟩, rfl, fun _ => by decide, fun r h => dk_38 h ha hb⟩
theorem tl_39 : Tells 39 3 1 := fun X hX hc => match X, hX, hc with | [a, b, c], _, ⟨ha, hb, hc, _⟩ => ⟨[(Fl3 a b c).2.1], (Fl3 a b c).2.2, ⟨(Fl3_cell ha hb hc).2, trivial⟩, rfl, fun _ => by decide, fun r h => dk_39 h ha hb hc⟩
theorem tl_40 : Tells 40 3 2 := fun X hX hc => match X, hX, hc with | [a, b, c], _, ⟨ha, hb, hc, _⟩ => ⟨[(Fl3 a b c).1, (Fl3 a b c).2.1], (Fl3 a b c).2.2, ⟨(Fl3_cell ha hb hc).1, ⟨(Fl3_cell ha hb hc).2, trivial⟩⟩, rfl, fun _ => by decide, fun r h => dk_40 h ha hb hc⟩
theorem tl_65 : Tells 65 3 2 := fun X hX hc => match X, hX, hc with | [a, b, c], _, ⟨ha, hb, hc, _⟩ => ⟨[(UM a b c).1, (UM a b c).2.1], (UM a b c).2.2, ⟨(UM_cell a b c).1, ⟨(UM_cell a b c).2, trivial⟩⟩, rfl, fun _ => by decide, fun r h => dk_65 h ha hb hc⟩
theorem tl_66 : Tells 66 3 2 := fun X hX hc => match X, hX, hc with | [a, b, c], _, ⟨ha, hb, hc, _⟩ => ⟨[(FlD a b c).1, (FlD a b c).2.1], (FlD a b c).2.2, ⟨(FlD_cell ha hb hc).1, ⟨(FlD_cell ha hb hc).2, trivial⟩⟩, rfl, fun _ => by decide, fun r h => dk_66 h ha hb hc⟩
theorem tl_67 : Tells 67 3 2 := fun X hX hc => match X, hX, hc with | [a, b, c], _, ⟨ha, hb, hc, _⟩ => ⟨[(Sy a b c).1, (Sy a b c).2.1], (Sy a b c).2.2, ⟨(Sy_cell ha hb hc).1, ⟨(Sy_cell ha hb hc).2, trivial⟩⟩, rfl, fun _ => by decide, fun r h => dk_67 h ha hb hc⟩
theorem tl_44 : Tells 44 1 1 := fun X hX hc => match X, hX, hc with | [a], _, ⟨ha, _⟩ => ⟨[Int.fdiv a 2], 0, ⟨half_cell ha, trivial⟩, rfl, fun h => absurd rfl h, fun r h => dk_44 h⟩
theorem tl_46 : Tells 46 1 1 := fun X hX hc => match X, hX, hc with | [a], _, ⟨ha, _⟩ => ⟨[if W (0 - a) > a then W (0 - a) else a], 0, ⟨ite_cell (W_cell _) ha, trivial⟩, rfl, fun h => absurd rfl h, fun r h => dk_46 h⟩
theorem tl_47 : Tells 47 2 1 := fun X hX hc => match X, hX, hc with | [a, b], _, ⟨ha, hb, _⟩ => ⟨[if b < a then b else a], 0, ⟨ite_cell hb ha, trivial⟩, rfl, fun h => absurd rfl h, fun r h => dk_47 h⟩
theorem tl_48 : Tells 48 2 1 := fun X hX hc => match X, hX, hc with | [a, b], _, ⟨ha, hb, _⟩ => ⟨[if b > a then b else a], 0, ⟨ite_cell hb ha, trivial⟩, rfl, fun h => absurd rfl h, fun r h => dk_48 h⟩
theorem tl_49 : Tells 49 2 1 := fun X hX hc => match X, hX, hc with | [a, b], _, ⟨ha, hb, _⟩ => ⟨[ibits .and .i64 a b], 0, ⟨bits_cell_and a b, trivial⟩, rfl, fun h => absurd rfl h, fun r h => dk_49 h⟩
theorem tl_50 : Tells 50 2 1 := fun X hX hc => match X, hX, hc with | [a, b], _, ⟨ha, hb, _⟩ => ⟨[ibits .or .i64 a b], 0, ⟨bits_cell_or a b, trivial⟩, rfl, fun h => absurd rfl h, fun r h => dk_50 h⟩
theorem tl_51 : Tells 51 2 1 := fun X hX hc => match X, hX, hc with | [a, b], _, ⟨ha, hb, _⟩ => ⟨[ibits .xor .i64 a b], 0, ⟨bits_cell_xor a b, trivial⟩, rfl, fun h => absurd rfl h, fun r h => dk_51 h⟩
theorem tl_52 : Tells 52 1 1 := fun X hX hc => match X, hX, hc with | [a], _, ⟨ha, _⟩ => ⟨[ibits .xor .i64 (-1) a], 0, ⟨bits_cell_xor _ a, trivial⟩, rfl, fun h => absurd rfl h, fun r h => dk_52 h⟩
theorem tl_53 : Tells 53 2 1 := fun X hX hc => match X, hX, hc with | [a, b], _, ⟨ha, hb, _⟩ => ⟨[shlV a b], 0, ⟨shlV_cell a b, trivial⟩, rfl, fun h => absurd rfl h, fun r h => dk_53 h hb⟩
theorem tl_54 : Tells 54 2 1 := fun X hX hc => match X, hX, hc with | [a, b], _, ⟨ha, hb, _⟩ => ⟨[shrV a b], 0, ⟨shrV_cell a b, trivial⟩, rfl, fun h => absurd rfl h, fun r h => dk_54 h hb⟩
theorem tl_55 : Tells 55 2 1 := fun X hX hc => match X, hX, hc with | [a, b], _, ⟨ha, hb, _⟩ => ⟨[if a == b then -1 else 0], 0, ⟨ite_cell m1_cell zero_cell, trivial⟩, rfl, fun h => absurd rfl h, fun r h => dk_55 h⟩
theorem tl_56 : Tells 56 2 1 := fun X hX hc => match X, hX, hc with | [a, b], _, ⟨ha, hb, _⟩ => ⟨[if a != b then -1 else 0], 0, ⟨ite_cell m1_cell zero_cell, trivial⟩, rfl, fun h => absurd rfl h, fun r h => dk_56 h⟩
theorem tl_57 : Tells 57 2 1 := fun X hX hc => match X, hX, hc with | [a, b], _, ⟨ha, hb, _⟩ => ⟨[if decide (a < b) then -1 else 0], 0, ⟨ite_cell m1_cell zero_cell, trivial⟩, rfl, fun h => absurd rfl h, fun r h => dk_57 h⟩
theorem tl_58 : Tells 58 2 1 := fun X hX hc => match X, hX, hc with | [a, b], _, ⟨ha, hb, _⟩ => ⟨[if decide (a > b) then -1 else 0], 0, ⟨ite_cell m1_cell zero_cell, trivial⟩, rfl, fun h => absurd rfl h, fun r h => dk_58 h⟩
theorem tl_59 : Tells 59 2 1 := fun X hX hc => match X, hX, hc with | [a, b], _, ⟨ha, hb, _⟩ => ⟨[if cell_Ult a b then -1 else 0], 0, ⟨ite_cell m1_cell zero_cell, trivial⟩, rfl, fun h => absurd rfl h, fun r h => dk_59 h⟩
theorem tl_60 : Tells 60 1 1 := fun X hX hc => match X, hX, hc with | [a], _, ⟨ha, _⟩ => ⟨[if a == 0 then -1 else 0], 0, ⟨ite_cell m1_cell zero_cell, trivial⟩, rfl, fun h => absurd rfl h, fun r h => dk_60 h⟩
theorem tl_61 : Tells 61 1 1 := fun X hX hc => match X, hX, hc with | [a], _, ⟨ha, _⟩ => ⟨[if decide (a < 0) then -1 else 0], 0, ⟨ite_cell m1_cell zero_cell, trivial⟩, rfl, fun h => absurd rfl h, fun r h => dk_61 h⟩
theorem tl_62 : Tells 62 3 1 := fun X hX hc => match X, hX, hc with | [a, b, c], _, ⟨ha, hb, hc, _⟩ => ⟨[if cell_Within a b c then -1 else 0], 0, ⟨ite_cell m1_cell zero_cell, trivial⟩, rfl, fun h => absurd rfl h, fun r h => dk_62 h⟩
theorem tl_63 : Tells 63 2 2 := fun X hX hc => match X, hX, hc with | [a, b], _, ⟨ha, hb, _⟩ => ⟨[(dbl_UMul a b).1, (dbl_UMul a b).2], 0, ⟨by rw [UMul_eq]; exact W_cell _, ⟨by rw [UMul_eq]; exact W_cell _, trivial⟩⟩, rfl, fun h => absurd rfl h, fun r h => dk_63 h⟩
theorem tl_64 : Tells 64 2 2 := fun X hX hc => match X, hX, hc with | [a, b], _, ⟨ha, hb, _⟩ => ⟨[(Pd (a * b)).1, (Pd (a * b)).2], 0, ⟨W_cell _, ⟨W_cell _, trivial⟩⟩, rfl, fun h => absurd rfl h, fun r h => dk_64 h ha hb⟩
theorem tl_68 : Tells 68 1 2 := fun X hX hc => match X, hX, hc with | [a], _, ⟨ha, _⟩ => ⟨[(dbl_Of a).1, (dbl_Of a).2], 0, ⟨by rw [Of_eq ha]; exact W_cell _, ⟨by rw [Of_eq ha]; exact W_cell _, trivial⟩⟩, rfl, fun h => absurd rfl h, fun r h => dk_68 h⟩
theorem tl_69 : Tells 69 4 2 := fun X hX hc => match X, hX, hc with | [a, b, c, d], _, ⟨ha, hb, hc, hd, _⟩ => ⟨[(Pd (S a b + S c d)).1, (Pd (S a b + S c d)).2], 0, ⟨W_cell _, ⟨W_cell _, trivial⟩⟩, rfl, fun h => absurd rfl h, fun r h => dk_69 h ha hb hc hd⟩
theorem tl_70 : Tells 70 2 2 := fun X hX hc => match X, hX, hc with | [a, b], _, ⟨ha, hb, _⟩ => ⟨[(Pd (-S a b)).1, (Pd (-S a b)).2], 0, ⟨W_cell _, ⟨W_cell _, trivial⟩⟩, rfl, fun h => absurd rfl h, fun r h => dk_70 h ha hb⟩
theorem tl_74 : Tells 74 1 1 := fun X hX hc => match X, hX, hc with | [a], _, ⟨ha, _⟩ => ⟨[cell_Aligned a], 0, ⟨aligned_cell a, trivial⟩, rfl, fun h => absurd rfl h, fun r h => dk_74 h⟩

end Go.Proofs.Dbl
