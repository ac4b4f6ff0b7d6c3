/- Plain facts about single operations: the rest. -/
import Derived.Test.YtbcijnfednjohaaPuPi
namespace Go.Proofs.Dbl
open Go Go.TX Go.Proofs
set_option maxRecDepth 100000
set_option maxHeartbeats 0
set_option linter.unusedVariables false
set_option linter.unusedSimpArgs false

def Fl3 (a b c : Int) : Int × Int × Int := if c = 0 then (0, 0, -10) else if Cell ((a * b).fdiv c) then ((a * b).fmod c, (a * b).fdiv c, 0) else (0, 0, -11)
def FlD (a b c : Int) : Int × Int × Int := if c = 0 then (0, 0, -10) else if Cell ((S a b).fdiv c) then ((S a b).fmod c, (S a b).fdiv c, 0) else (0, 0, -11)
def UM (a b c : Int) : Int × Int × Int := if c = 0 then (0, 0, -10) else if b % 18446744073709551616 < c % 18446744073709551616 then (W (D a b % (c % 18446744073709551616)), W (D a b / (c % 18446744073709551616)), 0) else (0, 0, -11)

theorem Scale_eq {a b c : Int} (ha : Cell a) (hb : Cell b) (hc : Cell c) : dbl_Scale a b c = some (Fl3 a b c) := by
  unfold dbl_Scale dbl_Scale_t
  rw [Mul_eq ha hb]
  simp only [outOf_some]
  rw [Floor_eq (show Cell (Pd _).fst from W_cell _) (show Cell (Pd _).snd from W_cell _) hc, S_of (mul_range ha hb)]
  rfl

noncomputable def shlV (a b : Int) : Int := (cell_Shl a b).getD 0
noncomputable def shrV (a b : Int) : Int := (cell_Shr a b).getD 0

theorem shifts_eq (b : Int) : cell_shifts b = some (if b ≥ 0 then decide (b < 64) else false) := by
  unfold cell_shifts cell_shifts_t
  by_cases h : b ≥ 0 <;> simp [h]
theorem either_eq (x : Bool) (y z : Int) : cell_either x y z = some (if x then y else z) := by
  unfold cell_either cell_either_t
  cases x <;> rfl
theorem zero_cell : Cell 0 := by unfold Cell; omega
theorem tmod_nn (b : Int) : ¬ Int.tmod (IntKind.wrap .u64 b) 64 < 0 := by
  rw [wu, Int.tmod_eq_emod_of_nonneg (by omega)]; omega
theorem Shl_ex (a b : Int) : ∃ v, cell_Shl a b = some v ∧ Cell v := by
  unfold cell_Shl cell_Shl_t
  rw [shifts_eq]
  simp only [outOf_some]
  rw [cf (tmod_nn b), either_eq]
  refine ⟨_, rfl, ?_⟩
  generalize (if b ≥ 0 then decide (b < 64) else false) = x
  rw [wi]
  cases x
  · exact zero_cell
  · exact W_cell _
theorem Shr_ex (a b : Int) : ∃ v, cell_Shr a b = some v ∧ Cell v := by
  unfold cell_Shr cell_Shr_t
  rw [shifts_eq]
  simp only [outOf_some]
  rw [cf (tmod_nn b), either_eq]
  refine ⟨_, rfl, ?_⟩
  generalize (if b ≥ 0 then decide (b < 64) else false) = x
  rw [wi]
  cases x
  · exact zero_cell
  · exact W_cell _
theorem Shl_eq {a b : Int} (hb : Cell b) : cell_Shl a b = some (shlV a b) := by
  obtain ⟨v, h, _⟩ := Shl_ex a b
  unfold shlV; rw [h]; rfl
theorem Shr_eq {a b : Int} (hb : Cell b) : cell_Shr a b = some (shrV a b) := by
  obtain ⟨v, h, _⟩ := Shr_ex a b
  unfold shrV; rw [h]; rfl
theorem shlV_cell (a b : Int) : Cell (shlV a b) := by
  obtain ⟨v, h, hv⟩ := Shl_ex a b
  unfold shlV; rw [h]; exact hv
theorem shrV_cell (a b : Int) : Cell (shrV a b) := by
  obtain ⟨v, h, hv⟩ := Shr_ex a b
  unfold shrV; rw [h]; exact hv

theorem dk_19 {r : List Int} {a : Int} (h : r.length + 1 ≤ 64) : Do_19 (r ++ [a]) = some (fin r [a] [] 0) := by
  unfold Do_19 Do_19_t
  rw [cf (by simp; omega), cf (by simp; omega)]
  exact permX (x := [a]) (n := 1) (to := []) rfl (by omega) (by decide) (by decide)

theorem dk_26 {r : List Int} {a b : Int} (h : r.length + 2 ≤ 64) : Do_26 (r ++ [a, b]) = some (fin r [a, b] [] 0) := by
  unfold Do_26 Do_26_t
  rw [cf (by simp; omega), cf (by simp; omega)]
  exact permX (x := [a, b]) (n := 2) (to := []) rfl (by omega) (by decide) (by decide)

theorem dk_21 {r : List Int} {a b : Int} (h : r.length + 2 ≤ 64) : Do_21 (r ++ [a, b]) = some (fin r [a, b] [a, b, a] 0) := by
  unfold Do_21 Do_21_t
  rw [cf (by simp; omega), cf (by simp; omega)]
  exact permX (x := [a, b]) (n := 2) (to := [0, 1, 0]) rfl (by omega) (by decide) (by decide)

theorem dk_23 {r : List Int} {a b : Int} (h : r.length + 2 ≤ 64) : Do_23 (r ++ [a, b]) = some (fin r [a, b] [b] 0) := by
  unfold Do_23 Do_23_t
  rw [cf (by simp; omega), cf (by simp; omega)]
  exact permX (x := [a, b]) (n := 2) (to := [1]) rfl (by omega) (by decide) (by decide)

theorem dk_28 {r : List Int} {a b c d : Int} (h : r.length + 4 ≤ 64) : Do_28 (r ++ [a, b, c, d]) = some (fin r [a, b, c, d] [a, b, c, d, a, b] 0) := by
  unfold Do_28 Do_28_t
  rw [cf (by simp; omega), cf (by simp; omega)]
  exact permX (x := [a, b, c, d]) (n := 4) (to := [0, 1, 2, 3, 0, 1]) rfl (by omega) (by decide) (by decide)

theorem dk_36 {r : List Int} {a b : Int} (h : r.length + 2 ≤ 64) (ha : Cell a) (hb : Cell b) : Do_36 (r ++ [a, b]) = some (fin r [a, b] [(F a b).1] (F a b).2.2) := by
  unfold Do_36 Do_36_t
  rw [cf (by simp; omega), cf (by simp; omega), popX2 h]
  simp only [outOf_some]
  rw [ct (by simp), ct (by simp)]
  rw [show cell_Floor (List.getD [a, b] 0 0) (List.getD [a, b] 1 0) = some (F a b) from cFloor_eq ha hb]
  exact tailE (by omega) (by simp) (.inl (by simp; omega))

theorem dk_37 {r : List Int} {a b : Int} (h : r.length + 2 ≤ 64) (ha : Cell a) (hb : Cell b) : Do_37 (r ++ [a, b]) = some (fin r [a, b] [(F a b).2.1] (F a b).2.2) := by
  unfold Do_37 Do_37_t
  rw [cf (by simp; omega), cf (by simp; omega), popX2 h]
  simp only [outOf_some]
  rw [ct (by simp), ct (by simp)]
  rw [show cell_Floor (List.getD [a, b] 0 0) (List.getD [a, b] 1 0) = some (F a b) from cFloor_eq ha hb]
  exact tailE (by omega) (by simp) (.inl (by simp; omega))

theorem dk_39 {r : List Int} {a b c : Int} (h : r.length + 3 ≤ 64) (ha : Cell a) (hb : Cell b) (hc : Cell c) : Do_39 (r ++ [a, b, c]) = some (fin r [a, b, c] [(Fl3 a b c).2.1] (Fl3 a b c).2.2) := by
  unfold Do_39 Do_39_t
  rw [cf (by simp; omega), cf (by simp; omega), popX3 h]
  simp only [outOf_some]
  rw [ct (by simp), ct (by simp), ct (by simp)]
  rw [show dbl_Scale (List.getD [a, b, c] 0 0) (List.getD [a, b, c] 1 0) (List.getD [a, b, c] 2 0) = some (Fl3 a b c) from Scale_eq ha hb hc]
  exact tailE (by omega) (by simp) (.inl (by simp; omega))

theorem dk_40 {r : List Int} {a b c : Int} (h : r.length + 3 ≤ 64) (ha : Cell a) (hb : Cell b) (hc : Cell c) : Do_40 (r ++ [a, b, c]) = some (fin r [a, b, c] [(Fl3 a b c).1, (Fl3 a b c).2.1] (Fl3 a b c).2.2) := by
  unfold Do_40 Do_40_t
  rw [cf (by simp; omega), cf (by simp; omega), popX3 h]
  simp only [outOf_some]
  rw [ct (by simp), ct (by simp), ct (by simp)]
  rw [show dbl_Scale (List.getD [a, b, c] 0 0) (List.getD [a, b, c] 1 0) (List.getD [a, b, c] 2 0) = some (Fl3 a b c) from Scale_eq ha hb hc]
  exact tailE (by omega) (by simp) (.inl (by simp; omega))

theorem dk_65 {r : List Int} {a b c : Int} (h : r.length + 3 ≤ 64) (ha : Cell a) (hb : Cell b) (hc : Cell c) : Do_65 (r ++ [a, b, c]) = some (fin r [a, b, c] [(UM a b c).1, (UM a b c).2.1] (UM a b c).2.2) := by
  unfold Do_65 Do_65_t
  rw [cf (by simp; omega), cf (by simp; omega), popX3 h]
  simp only [outOf_some]
  rw [ct (by simp), ct (by simp), ct (by simp)]
  rw [show dbl_UMod (List.getD [a, b, c] 0 0) (List.getD [a, b, c] 1 0) (List.getD [a, b, c] 2 0) = some (UM a b c) from UMod_eq ha hb hc]
  exact tailE (by omega) (by simp) (.inl (by simp; omega))

theorem dk_66 {r : List Int} {a b c : Int} (h : r.length + 3 ≤ 64) (ha : Cell a) (hb : Cell b) (hc : Cell c) : Do_66 (r ++ [a, b, c]) = some (fin r [a, b, c] [(FlD a b c).1, (FlD a b c).2.1] (FlD a b c).2.2) := by
  unfold Do_66 Do_66_t
  rw [cf (by simp; omega), cf (by simp; omega), popX3 h]
  simp only [outOf_some]
  rw [ct (by simp), ct (by simp), ct (by simp)]
  rw [show dbl_Floor (List.getD [a, b, c] 0 0) (List.getD [a, b, c] 1 0) (List.getD [a, b, c] 2 0) = some (FlD a b c) from Floor_eq ha hb hc]
  exact tailE (by omega) (by simp) (.inl (by simp; omega))

theorem dk_43 {r : List Int} {a : Int} (h : r.length + 1 ≤ 64) : Do_43 (r ++ [a]) = some (fin r [a] [W (a * 2)] 0) := by
  unfold Do_43 Do_43_t
  rw [cf (by simp; omega), cf (by simp; omega), popX1 h]
  simp only [outOf_some]
  rw [ct (by simp)]
  simp only [wi]
  exact tail0 (by omega) (by simp)

theorem dk_71 {r : List Int} {a : Int} (h : r.length + 1 ≤ 64) : Do_71 (r ++ [a]) = some (fin r [a] [W (a * 8)] 0) := by
  unfold Do_71 Do_71_t
  rw [cf (by simp; omega), cf (by simp; omega), popX1 h]
  simp only [outOf_some]
  rw [ct (by simp)]
  simp only [wi]
  exact tail0 (by omega) (by simp)

theorem dk_73 {r : List Int} {a : Int} (h : r.length + 1 ≤ 64) : Do_73 (r ++ [a]) = some (fin r [a] [W (a + 1)] 0) := by
  unfold Do_73 Do_73_t
  rw [cf (by simp; omega), cf (by simp; omega), popX1 h]
  simp only [outOf_some]
  rw [ct (by simp)]
  simp only [wi]
  exact tail0 (by omega) (by simp)

theorem dk_44 {r : List Int} {a : Int} (h : r.length + 1 ≤ 64) : Do_44 (r ++ [a]) = some (fin r [a] [Int.fdiv a 2] 0) := by
  unfold Do_44 Do_44_t
  rw [cf (by simp; omega), cf (by simp; omega), popX1 h]
  simp only [outOf_some]
  rw [ct (by simp)]
  exact tail0 (by omega) (by simp)

theorem dk_46 {r : List Int} {a : Int} (h : r.length + 1 ≤ 64) : Do_46 (r ++ [a]) = some (fin r [a] [if W (0 - a) > a then W (0 - a) else a] 0) := by
  unfold Do_46 Do_46_t
  rw [cf (by simp; omega), cf (by simp; omega), popX1 h]
  simp only [outOf_some]
  rw [ct (by simp)]
  simp only [wi]
  exact tail0 (by omega) (by simp)

theorem dk_47 {r : List Int} {a b : Int} (h : r.length + 2 ≤ 64) : Do_47 (r ++ [a, b]) = some (fin r [a, b] [if b < a then b else a] 0) := by
  unfold Do_47 Do_47_t
  rw [cf (by simp; omega), cf (by simp; omega), popX2 h]
  simp only [outOf_some]
  rw [ct (by simp), ct (by simp)]
  exact tail0 (by omega) (by simp)

theorem dk_48 {r : List Int} {a b : Int} (h : r.length + 2 ≤ 64) : Do_48 (r ++ [a, b]) = some (fin r [a, b] [if b > a then b else a] 0) := by
  unfold Do_48 Do_48_t
  rw [cf (by simp; omega), cf (by simp; omega), popX2 h]
  simp only [outOf_some]
  rw [ct (by simp), ct (by simp)]
  exact tail0 (by omega) (by simp)

theorem dk_53 {r : List Int} {a b : Int} (h : r.length + 2 ≤ 64) (hb : Cell b) : Do_53 (r ++ [a, b]) = some (fin r [a, b] [shlV a b] 0) := by
  unfold Do_53 Do_53_t
  rw [cf (by simp; omega), cf (by simp; omega), popX2 h]
  simp only [outOf_some]
  rw [ct (by simp), ct (by simp)]
  rw [show cell_Shl (List.getD [a, b] 0 0) (List.getD [a, b] 1 0) = some (shlV a b) from Shl_eq hb]
  simp only [outOf_some]
  exact tail0 (by omega) (by simp)

theorem dk_54 {r : List Int} {a b : Int} (h : r.length + 2 ≤ 64) (hb : Cell b) : Do_54 (r ++ [a, b]) = some (fin r [a, b] [shrV a b] 0) := by
  unfold Do_54 Do_54_t
  rw [cf (by simp; omega), cf (by simp; omega), popX2 h]
  simp only [outOf_some]
  rw [ct (by simp), ct (by simp)]
  rw [show cell_Shr (List.getD [a, b] 0 0) (List.getD [a, b] 1 0) = some (shrV a b) from Shr_eq hb]
  simp only [outOf_some]
  exact tail0 (by omega) (by simp)

theorem dk_59 {r : List Int} {a b : Int} (h : r.length + 2 ≤ 64) : Do_59 (r ++ [a, b]) = some (fin r [a, b] [if cell_Ult a b then -1 else 0] 0) := by
  unfold Do_59 Do_59_t
  rw [cf (by simp; omega), cf (by simp; omega), popX2 h]
  simp only [outOf_some]
  rw [ct (by simp), ct (by simp)]
  rw [flag_eq]
  simp only [outOf_some]
  exact tail0 (by omega) (by simp)

theorem dk_61 {r : List Int} {a : Int} (h : r.length + 1 ≤ 64) : Do_61 (r ++ [a]) = some (fin r [a] [if decide (a < 0) then -1 else 0] 0) := by
  unfold Do_61 Do_61_t
  rw [cf (by simp; omega), cf (by simp; omega), popX1 h]
  simp only [outOf_some]
  rw [ct (by simp)]
  rw [flag_eq]
  simp only [outOf_some]
  exact tail0 (by omega) (by simp)

theorem dk_62 {r : List Int} {a b c : Int} (h : r.length + 3 ≤ 64) : Do_62 (r ++ [a, b, c]) = some (fin r [a, b, c] [if cell_Within a b c then -1 else 0] 0) := by
  unfold Do_62 Do_62_t
  rw [cf (by simp; omega), cf (by simp; omega), popX3 h]
  simp only [outOf_some]
  rw [ct (by simp), ct (by simp), ct (by simp)]
  rw [flag_eq]
  simp only [outOf_some]
  exact tail0 (by omega) (by simp)

theorem dk_63 {r : List Int} {a b : Int} (h : r.length + 2 ≤ 64) : Do_63 (r ++ [a, b]) = some (fin r [a, b] [(dbl_UMul a b).1, (dbl_UMul a b).2] 0) := by
  unfold Do_63 Do_63_t
  rw [cf (by simp; omega), cf (by simp; omega), popX2 h]
  simp only [outOf_some]
  rw [ct (by simp), ct (by simp)]
  exact tail0 (by omega) (by simp)

theorem dk_68 {r : List Int} {a : Int} (h : r.length + 1 ≤ 64) : Do_68 (r ++ [a]) = some (fin r [a] [(dbl_Of a).1, (dbl_Of a).2] 0) := by
  unfold Do_68 Do_68_t
  rw [cf (by simp; omega), cf (by simp; omega), popX1 h]
  simp only [outOf_some]
  rw [ct (by simp)]
  exact tail0 (by omega) (by simp)

theorem dk_69 {r : List Int} {a b c d : Int} (h : r.length + 4 ≤ 64) (ha : Cell a) (hb : Cell b) (hc : Cell c) (hd : Cell d) : Do_69 (r ++ [a, b, c, d]) = some (fin r [a, b, c, d] [(Pd (S a b + S c d)).1, (Pd (S a b + S c d)).2] 0) := by
  unfold Do_69 Do_69_t
  rw [cf (by simp; omega), cf (by simp; omega), popX4 h]
  simp only [outOf_some]
  rw [ct (by simp), ct (by simp), ct (by simp), ct (by simp)]
  rw [show dbl_Add (List.getD [a, b, c, d] 0 0) (List.getD [a, b, c, d] 1 0) (List.getD [a, b, c, d] 2 0) (List.getD [a, b, c, d] 3 0) = some (Pd (S a b + S c d)) from Add_S ha hb hc hd]
  exact tail0 (by omega) (by simp)

theorem dk_74 {r : List Int} {a : Int} (h : r.length + 1 ≤ 64) : Do_74 (r ++ [a]) = some (fin r [a] [cell_Aligned a] 0) := by
  unfold Do_74 Do_74_t
  rw [cf (by simp; omega), cf (by simp; omega), popX1 h]
  simp only [outOf_some]
  rw [ct (by simp)]
  exact tail0 (by omega) (by simp)

end Go.Proofs.Dbl
