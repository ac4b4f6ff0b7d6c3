/- Plain facts about single operations: too few cells, too many; what is none of these. -/
import Derived.Test.YtbcijnfednjohaaPuPk
import Derived.KernelRfl
namespace Go.Proofs.Dbl
open Go Go.TX Go.Proofs
set_option maxRecDepth 100000
set_option maxHeartbeats 0
set_option linter.unusedVariables false
set_option linter.unusedSimpArgs false

theorem un_18 {d : List Int} (h : d.length < 1) : Do_18 d = some (d, -4) := by
  unfold Do_18 Do_18_t
  rw [ct (by omega)]
theorem ov_18 {d : List Int} (h : 64 < d.length) : Do_18 d = some (d, -3) := by
  unfold Do_18 Do_18_t
  rw [cf (by omega), ct (by omega)]
theorem un_19 {d : List Int} (h : d.length < 1) : Do_19 d = some (d, -4) := by
  unfold Do_19 Do_19_t
  rw [ct (by omega)]
theorem ov_19 {d : List Int} (h : 64 < d.length) : Do_19 d = some (d, -3) := by
  unfold Do_19 Do_19_t
  rw [cf (by omega), ct (by omega)]
theorem un_20 {d : List Int} (h : d.length < 2) : Do_20 d = some (d, -4) := by
  unfold Do_20 Do_20_t
  rw [ct (by omega)]
theorem ov_20 {d : List Int} (h : 64 < d.length) : Do_20 d = some (d, -3) := by
  unfold Do_20 Do_20_t
  rw [cf (by omega), ct (by omega)]
theorem un_21 {d : List Int} (h : d.length < 2) : Do_21 d = some (d, -4) := by
  unfold Do_21 Do_21_t
  rw [ct (by omega)]
theorem ov_21 {d : List Int} (h : 64 < d.length) : Do_21 d = some (d, -3) := by
  unfold Do_21 Do_21_t
  rw [cf (by omega), ct (by omega)]
theorem un_22 {d : List Int} (h : d.length < 3) : Do_22 d = some (d, -4) := by
  unfold Do_22 Do_22_t
  rw [ct (by omega)]
theorem ov_22 {d : List Int} (h : 64 < d.length) : Do_22 d = some (d, -3) := by
  unfold Do_22 Do_22_t
  rw [cf (by omega), ct (by omega)]
theorem un_23 {d : List Int} (h : d.length < 2) : Do_23 d = some (d, -4) := by
  unfold Do_23 Do_23_t
  rw [ct (by omega)]
theorem ov_23 {d : List Int} (h : 64 < d.length) : Do_23 d = some (d, -3) := by
  unfold Do_23 Do_23_t
  rw [cf (by omega), ct (by omega)]
theorem un_24 {d : List Int} (h : d.length < 2) : Do_24 d = some (d, -4) := by
  unfold Do_24 Do_24_t
  rw [ct (by omega)]
theorem ov_24 {d : List Int} (h : 64 < d.length) : Do_24 d = some (d, -3) := by
  unfold Do_24 Do_24_t
  rw [cf (by omega), ct (by omega)]
theorem un_25 {d : List Int} (h : d.length < 2) : Do_25 d = some (d, -4) := by
  unfold Do_25 Do_25_t
  rw [ct (by omega)]
theorem ov_25 {d : List Int} (h : 64 < d.length) : Do_25 d = some (d, -3) := by
  unfold Do_25 Do_25_t
  rw [cf (by omega), ct (by omega)]
theorem un_26 {d : List Int} (h : d.length < 2) : Do_26 d = some (d, -4) := by
  unfold Do_26 Do_26_t
  rw [ct (by omega)]
theorem ov_26 {d : List Int} (h : 64 < d.length) : Do_26 d = some (d, -3) := by
  unfold Do_26 Do_26_t
  rw [cf (by omega), ct (by omega)]
theorem un_27 {d : List Int} (h : d.length < 4) : Do_27 d = some (d, -4) := by
  unfold Do_27 Do_27_t
  rw [ct (by omega)]
theorem ov_27 {d : List Int} (h : 64 < d.length) : Do_27 d = some (d, -3) := by
  unfold Do_27 Do_27_t
  rw [cf (by omega), ct (by omega)]
theorem un_28 {d : List Int} (h : d.length < 4) : Do_28 d = some (d, -4) := by
  unfold Do_28 Do_28_t
  rw [ct (by omega)]
theorem ov_28 {d : List Int} (h : 64 < d.length) : Do_28 d = some (d, -3) := by
  unfold Do_28 Do_28_t
  rw [cf (by omega), ct (by omega)]
theorem un_29 {d : List Int} (h : d.length < 1) : Do_29 d = some (d, -4) := by
  unfold Do_29 Do_29_t
  rw [ct (by omega)]
theorem ov_29 {d : List Int} (h : 64 < d.length) : Do_29 d = some (d, -3) := by
  unfold Do_29 Do_29_t
  rw [cf (by omega), ct (by omega)]
theorem un_30 {d : List Int} (h : d.length < 1) : Do_30 d = some (d, -4) := by
  unfold Do_30 Do_30_t
  rw [ct (by omega)]
theorem ov_30 {d : List Int} (h : 64 < d.length) : Do_30 d = some (d, -3) := by
  unfold Do_30 Do_30_t
  rw [cf (by omega), ct (by omega)]
theorem un_31 {d : List Int} (h : d.length < 1) : Do_31 d = some (d, -4) := by
  unfold Do_31 Do_31_t
  rw [ct (by omega)]
theorem ov_31 {d : List Int} (h : 64 < d.length) : Do_31 d = some (d, -3) := by
  unfold Do_31 Do_31_t
  rw [cf (by omega), ct (by omega)]
theorem ov_32 {d : List Int} (h : 64 < d.length) : Do_32 d = some (d, -3) := by
  unfold Do_32 Do_32_t
  rw [cf (by omega), ct (by omega)]
theorem un_33 {d : List Int} (h : d.length < 2) : Do_33 d = some (d, -4) := by
  unfold Do_33 Do_33_t
  rw [ct (by omega)]
theorem ov_33 {d : List Int} (h : 64 < d.length) : Do_33 d = some (d, -3) := by
  unfold Do_33 Do_33_t
  rw [cf (by omega), ct (by omega)]
theorem un_34 {d : List Int} (h : d.length < 2) : Do_34 d = some (d, -4) := by
  unfold Do_34 Do_34_t
  rw [ct (by omega)]
theorem ov_34 {d : List Int} (h : 64 < d.length) : Do_34 d = some (d, -3) := by
  unfold Do_34 Do_34_t
  rw [cf (by omega), ct (by omega)]
theorem un_35 {d : List Int} (h : d.length < 2) : Do_35 d = some (d, -4) := by
  unfold Do_35 Do_35_t
  rw [ct (by omega)]
theorem ov_35 {d : List Int} (h : 64 < d.length) : Do_35 d = some (d, -3) := by
  unfold Do_35 Do_35_t
  rw [cf (by omega), ct (by omega)]
theorem un_36 {d : List Int} (h : d.length < 2) : Do_36 d = some (d, -4) := by
  unfold Do_36 Do_36_t
  rw [ct (by omega)]
theorem ov_36 {d : List Int} (h : 64 < d.length) : Do_36 d = some (d, -3) := by
  unfold Do_36 Do_36_t
  rw [cf (by omega), ct (by omega)]
theorem un_37 {d : List Int} (h : d.length < 2) : Do_37 d = some (d, -4) := by
  unfold Do_37 Do_37_t
  rw [ct (by omega)]
theorem ov_37 {d : List Int} (h : 64 < d.length) : Do_37 d = some (d, -3) := by
  unfold Do_37 Do_37_t
  rw [cf (by omega), ct (by omega)]
theorem un_38 {d : List Int} (h : d.length < 2) : Do_38 d = some (d, -4) := by
  unfold Do_38 Do_38_t
  rw [ct (by omega)]
theorem ov_38 {d : List Int} (h : 64 < d.length) : Do_38 d = some (d, -3) := by
  unfold Do_38 Do_38_t
  rw [cf (by omega), ct (by omega)]
theorem un_39 {d : List Int} (h : d.length < 3) : Do_39 d = some (d, -4) := by
  unfold Do_39 Do_39_t
  rw [ct (by omega)]
theorem ov_39 {d : List Int} (h : 64 < d.length) : Do_39 d = some (d, -3) := by
  unfold Do_39 Do_39_t
  rw [cf (by omega), ct (by omega)]
theorem un_40 {d : List Int} (h : d.length < 3) : Do_40 d = some (d, -4) := by
  unfold Do_40 Do_40_t
  rw [ct (by omega)]
theorem ov_40 {d : List Int} (h : 64 < d.length) : Do_40 d = some (d, -3) := by
  unfold Do_40 Do_40_t
  rw [cf (by omega), ct (by omega)]
theorem un_41 {d : List Int} (h : d.length < 1) : Do_41 d = some (d, -4) := by
  unfold Do_41 Do_41_t
  rw [ct (by omega)]
theorem ov_41 {d : List Int} (h : 64 < d.length) : Do_41 d = some (d, -3) := by
  unfold Do_41 Do_41_t
  rw [cf (by omega), ct (by omega)]
theorem un_42 {d : List Int} (h : d.length < 1) : Do_42 d = some (d, -4) := by
  unfold Do_42 Do_42_t
  rw [ct (by omega)]
theorem ov_42 {d : List Int} (h : 64 < d.length) : Do_42 d = some (d, -3) := by
  unfold Do_42 Do_42_t
  rw [cf (by omega), ct (by omega)]
theorem un_43 {d : List Int} (h : d.length < 1) : Do_43 d = some (d, -4) := by
  unfold Do_43 Do_43_t
  rw [ct (by omega)]
theorem ov_43 {d : List Int} (h : 64 < d.length) : Do_43 d = some (d, -3) := by
  unfold Do_43 Do_43_t
  rw [cf (by omega), ct (by omega)]
theorem un_44 {d : List Int} (h : d.length < 1) : Do_44 d = some (d, -4) := by
  unfold Do_44 Do_44_t
  rw [ct (by omega)]
theorem ov_44 {d : List Int} (h : 64 < d.length) : Do_44 d = some (d, -3) := by
  unfold Do_44 Do_44_t
  rw [cf (by omega), ct (by omega)]
theorem un_45 {d : List Int} (h : d.length < 1) : Do_45 d = some (d, -4) := by
  unfold Do_45 Do_45_t
  rw [ct (by omega)]
theorem ov_45 {d : List Int} (h : 64 < d.length) : Do_45 d = some (d, -3) := by
  unfold Do_45 Do_45_t
  rw [cf (by omega), ct (by omega)]
theorem un_46 {d : List Int} (h : d.length < 1) : Do_46 d = some (d, -4) := by
  unfold Do_46 Do_46_t
  rw [ct (by omega)]
theorem ov_46 {d : List Int} (h : 64 < d.length) : Do_46 d = some (d, -3) := by
  unfold Do_46 Do_46_t
  rw [cf (by omega), ct (by omega)]
theorem un_47 {d : List Int} (h : d.length < 2) : Do_47 d = some (d, -4) := by
  unfold Do_47 Do_47_t
  rw [ct (by omega)]
theorem ov_47 {d : List Int} (h : 64 < d.length) : Do_47 d = some (d, -3) := by
  unfold Do_47 Do_47_t
  rw [cf (by omega), ct (by omega)]
theorem un_48 {d : List Int} (h : d.length < 2) : Do_48 d = some (d, -4) := by
  unfold Do_48 Do_48_t
  rw [ct (by omega)]
theorem ov_48 {d : List Int} (h : 64 < d.length) : Do_48 d = some (d, -3) := by
  unfold Do_48 Do_48_t
  rw [cf (by omega), ct (by omega)]
theorem un_49 {d : List Int} (h : d.length < 2) : Do_49 d = some (d, -4) := by
  unfold Do_49 Do_49_t
  rw [ct (by omega)]
theorem ov_49 {d : List Int} (h : 64 < d.length) : Do_49 d = some (d, -3) := by
  unfold Do_49 Do_49_t
  rw [cf (by omega), ct (by omega)]
theorem un_50 {d : List Int} (h : d.length < 2) : Do_50 d = some (d, -4) := by
  unfold Do_50 Do_50_t
  rw [ct (by omega)]
theorem ov_50 {d : List Int} (h : 64 < d.length) : Do_50 d = some (d, -3) := by
  unfold Do_50 Do_50_t
  rw [cf (by omega), ct (by omega)]
theorem un_51 {d : List Int} (h : d.length < 2) : Do_51 d = some (d, -4) := by
  unfold Do_51 Do_51_t
  rw [ct (by omega)]
theorem ov_51 {d : List Int} (h : 64 < d.length) : Do_51 d = some (d, -3) := by
  unfold Do_51 Do_51_t
  rw [cf (by omega), ct (by omega)]
theorem un_52 {d : List Int} (h : d.length < 1) : Do_52 d = some (d, -4) := by
  unfold Do_52 Do_52_t
  rw [ct (by omega)]
theorem ov_52 {d : List Int} (h : 64 < d.length) : Do_52 d = some (d, -3) := by
  unfold Do_52 Do_52_t
  rw [cf (by omega), ct (by omega)]
theorem un_53 {d : List Int} (h : d.length < 2) : Do_53 d = some (d, -4) := by
  unfold Do_53 Do_53_t
  rw [ct (by omega)]
theorem ov_53 {d : List Int} (h : 64 < d.length) : Do_53 d = some (d, -3) := by
  unfold Do_53 Do_53_t
  rw [cf (by omega), ct (by omega)]
theorem un_54 {d : List Int} (h : d.length < 2) : Do_54 d = some (d, -4) := by
  unfold Do_54 Do_54_t
  rw [ct (by omega)]
theorem ov_54 {d : List Int} (h : 64 < d.length) : Do_54 d = some (d, -3) := by
  unfold Do_54 Do_54_t
  rw [cf (by omega), ct (by omega)]
theorem un_55 {d : List Int} (h : d.length < 2) : Do_55 d = some (d, -4) := by
  unfold Do_55 Do_55_t
  rw [ct (by omega)]
theorem ov_55 {d : List Int} (h : 64 < d.length) : Do_55 d = some (d, -3) := by
  unfold Do_55 Do_55_t
  rw [cf (by omega), ct (by omega)]
theorem un_56 {d : List Int} (h : d.length < 2) : Do_56 d = some (d, -4) := by
  unfold Do_56 Do_56_t
  rw [ct (by omega)]
theorem ov_56 {d : List Int} (h : 64 < d.length) : Do_56 d = some (d, -3) := by
  unfold Do_56 Do_56_t
  rw [cf (by omega), ct (by omega)]
theorem un_57 {d : List Int} (h : d.length < 2) : Do_57 d = some (d, -4) := by
  unfold Do_57 Do_57_t
  rw [ct (by omega)]
theorem ov_57 {d : List Int} (h : 64 < d.length) : Do_57 d = some (d, -3) := by
  unfold Do_57 Do_57_t
  rw [cf (by omega), ct (by omega)]
theorem un_58 {d : List Int} (h : d.length < 2) : Do_58 d = some (d, -4) := by
  unfold Do_58 Do_58_t
  rw [ct (by omega)]
theorem ov_58 {d : List Int} (h : 64 < d.length) : Do_58 d = some (d, -3) := by
  unfold Do_58 Do_58_t
  rw [cf (by omega), ct (by omega)]
theorem un_59 {d : List Int} (h : d.length < 2) : Do_59 d = some (d, -4) := by
  unfold Do_59 Do_59_t
  rw [ct (by omega)]
theorem ov_59 {d : List Int} (h : 64 < d.length) : Do_59 d = some (d, -3) := by
  unfold Do_59 Do_59_t
  rw [cf (by omega), ct (by omega)]
theorem un_60 {d : List Int} (h : d.length < 1) : Do_60 d = some (d, -4) := by
  unfold Do_60 Do_60_t
  rw [ct (by omega)]
theorem ov_60 {d : List Int} (h : 64 < d.length) : Do_60 d = some (d, -3) := by
  unfold Do_60 Do_60_t
  rw [cf (by omega), ct (by omega)]
theorem un_61 {d : List Int} (h : d.length < 1) : Do_61 d = some (d, -4) := by
  unfold Do_61 Do_61_t
  rw [ct (by omega)]
theorem ov_61 {d : List Int} (h : 64 < d.length) : Do_61 d = some (d, -3) := by
  unfold Do_61 Do_61_t
  rw [cf (by omega), ct (by omega)]
theorem un_62 {d : List Int} (h : d.length < 3) : Do_62 d = some (d, -4) := by
  unfold Do_62 Do_62_t
  rw [ct (by omega)]
theorem ov_62 {d : List Int} (h : 64 < d.length) : Do_62 d = some (d, -3) := by
  unfold Do_62 Do_62_t
  rw [cf (by omega), ct (by omega)]
theorem un_63 {d : List Int} (h : d.length < 2) : Do_63 d = some (d, -4) := by
  unfold Do_63 Do_63_t
  rw [ct (by omega)]
theorem ov_63 {d : List Int} (h : 64 < d.length) : Do_63 d = some (d, -3) := by
  unfold Do_63 Do_63_t
  rw [cf (by omega), ct (by omega)]
theorem un_64 {d : List Int} (h : d.length < 2) : Do_64 d = some (d, -4) := by
  unfold Do_64 Do_64_t
  rw [ct (by omega)]
theorem ov_64 {d : List Int} (h : 64 < d.length) : Do_64 d = some (d, -3) := by
  unfold Do_64 Do_64_t
  rw [cf (by omega), ct (by omega)]
theorem un_65 {d : List Int} (h : d.length < 3) : Do_65 d = some (d, -4) := by
  unfold Do_65 Do_65_t
  rw [ct (by omega)]
theorem ov_65 {d : List Int} (h : 64 < d.length) : Do_65 d = some (d, -3) := by
  unfold Do_65 Do_65_t
  rw [cf (by omega), ct (by omega)]
theorem un_66 {d : List Int} (h : d.length < 3) : Do_66 d = some (d, -4) := by
  unfold Do_66 Do_66_t
  rw [ct (by omega)]
theorem ov_66 {d : List Int} (h : 64 < d.length) : Do_66 d = some (d, -3) := by
  unfold Do_66 Do_66_t
  rw [cf (by omega), ct (by omega)]
theorem un_67 {d : List Int} (h : d.length < 3) : Do_67 d = some (d, -4) := by
  unfold Do_67 Do_67_t
  rw [ct (by omega)]
theorem ov_67 {d : List Int} (h : 64 < d.length) : Do_67 d = some (d, -3) := by
  unfold Do_67 Do_67_t
  rw [cf (by omega), ct (by omega)]
theorem un_68 {d : List Int} (h : d.length < 1) : Do_68 d = some (d, -4) := by
  unfold Do_68 Do_68_t
  rw [ct (by omega)]
theorem ov_68 {d : List Int} (h : 64 < d.length) : Do_68 d = some (d, -3) := by
  unfold Do_68 Do_68_t
  rw [cf (by omega), ct (by omega)]
theorem un_69 {d : List Int} (h : d.length < 4) : Do_69 d = some (d, -4) := by
  unfold Do_69 Do_69_t
  rw [ct (by omega)]
theorem ov_69 {d : List Int} (h : 64 < d.length) : Do_69 d = some (d, -3) := by
  unfold Do_69 Do_69_t
  rw [cf (by omega), ct (by omega)]
theorem un_70 {d : List Int} (h : d.length < 2) : Do_70 d = some (d, -4) := by
  unfold Do_70 Do_70_t
  rw [ct (by omega)]
theorem ov_70 {d : List Int} (h : 64 < d.length) : Do_70 d = some (d, -3) := by
  unfold Do_70 Do_70_t
  rw [cf (by omega), ct (by omega)]
theorem un_71 {d : List Int} (h : d.length < 1) : Do_71 d = some (d, -4) := by
  unfold Do_71 Do_71_t
  rw [ct (by omega)]
theorem ov_71 {d : List Int} (h : 64 < d.length) : Do_71 d = some (d, -3) := by
  unfold Do_71 Do_71_t
  rw [cf (by omega), ct (by omega)]
theorem un_72 {d : List Int} (h : d.length < 1) : Do_72 d = some (d, -4) := by
  unfold Do_72 Do_72_t
  rw [ct (by omega)]
theorem ov_72 {d : List Int} (h : 64 < d.length) : Do_72 d = some (d, -3) := by
  unfold Do_72 Do_72_t
  rw [cf (by omega), ct (by omega)]
theorem un_73 {d : List Int} (h : d.length < 1) : Do_73 d = some (d, -4) := by
  unfold Do_73 Do_73_t
  rw [ct (by omega)]
theorem ov_73 {d : List Int} (h : 64 < d.length) : Do_73 d = some (d, -3) := by
  unfold Do_73 Do_73_t
  rw [cf (by omega), ct (by omega)]
theorem un_74 {d : List Int} (h : d.length < 1) : Do_74 d = some (d, -4) := by
  unfold Do_74 Do_74_t
  rw [ct (by omega)]
theorem ov_74 {d : List Int} (h : 64 < d.length) : Do_74 d = some (d, -3) := by
  unfold Do_74 Do_74_t
  rw [cf (by omega), ct (by omega)]
/-- How many cells each operation needs, from the 18th to the 74th. -/
def needL : List Nat := [1, 1, 2, 2, 3, 2, 2, 2, 2, 4, 4, 1, 1, 1, 0, 2, 2, 2, 2, 2, 2, 3, 3, 1, 1, 1, 1, 1, 1, 2, 2, 2, 2, 2, 1, 2, 2, 2, 2, 2, 2, 2, 1, 1, 3, 2, 2, 3, 3, 3, 1, 4, 2, 1, 1, 1, 1]
def need (k : Nat) : Nat := needL.getD (k - 18) 0
theorem tab_un {d : List Int} : ∀ k : Nat, 18 ≤ k → k ≤ 74 → d.length < need k → Do_tab k d = some (d, -4)
  | 18, _, _, h => un_18 h
  | 19, _, _, h => un_19 h
  | 20, _, _, h => un_20 h
  | 21, _, _, h => un_21 h
  | 22, _, _, h => un_22 h
  | 23, _, _, h => un_23 h
  | 24, _, _, h => un_24 h
  | 25, _, _, h => un_25 h
  | 26, _, _, h => un_26 h
  | 27, _, _, h => un_27 h
  | 28, _, _, h => un_28 h
  | 29, _, _, h => un_29 h
  | 30, _, _, h => un_30 h
  | 31, _, _, h => un_31 h
  | 32, _, _, h => absurd h (Nat.not_lt_zero _)
  | 33, _, _, h => un_33 h
  | 34, _, _, h => un_34 h
  | 35, _, _, h => un_35 h
  | 36, _, _, h => un_36 h
  | 37, _, _, h => un_37 h
  | 38, _, _, h => un_38 h
  | 39, _, _, h => un_39 h
  | 40, _, _, h => un_40 h
  | 41, _, _, h => un_41 h
  | 42, _, _, h => un_42 h
  | 43, _, _, h => un_43 h
  | 44, _, _, h => un_44 h
  | 45, _, _, h => un_45 h
  | 46, _, _, h => un_46 h
  | 47, _, _, h => un_47 h
  | 48, _, _, h => un_48 h
  | 49, _, _, h => un_49 h
  | 50, _, _, h => un_50 h
  | 51, _, _, h => un_51 h
  | 52, _, _, h => un_52 h
  | 53, _, _, h => un_53 h
  | 54, _, _, h => un_54 h
  | 55, _, _, h => un_55 h
  | 56, _, _, h => un_56 h
  | 57, _, _, h => un_57 h
  | 58, _, _, h => un_58 h
  | 59, _, _, h => un_59 h
  | 60, _, _, h => un_60 h
  | 61, _, _, h => un_61 h
  | 62, _, _, h => un_62 h
  | 63, _, _, h => un_63 h
  | 64, _, _, h => un_64 h
  | 65, _, _, h => un_65 h
  | 66, _, _, h => un_66 h
  | 67, _, _, h => un_67 h
  | 68, _, _, h => un_68 h
  | 69, _, _, h => un_69 h
  | 70, _, _, h => un_70 h
  | 71, _, _, h => un_71 h
  | 72, _, _, h => un_72 h
  | 73, _, _, h => un_73 h
  | 74, _, _, h => un_74 h
  | 0, h, _, _ | 1, h, _, _ | 2, h, _, _ | 3, h, _, _ | 4, h, _, _ | 5, h, _, _ | 6, h, _, _ | 7, h, _, _ | 8, h, _, _ | 9, h, _, _ | 10, h, _, _ | 11, h, _, _ | 12, h, _, _ | 13, h, _, _ | 14, h, _, _ | 15, h, _, _ | 16, h, _, _ | 17, h, _, _ => by omega
  | n + 75, _, h, _ => by omega

theorem tab_ov {d : List Int} (h : 64 < d.length) : ∀ k : Nat, 18 ≤ k → k ≤ 74 → Do_tab k d = some (d, -3)
  | 18, _, _ => ov_18 h
  | 19, _, _ => ov_19 h
  | 20, _, _ => ov_20 h
  | 21, _, _ => ov_21 h
  | 22, _, _ => ov_22 h
  | 23, _, _ => ov_23 h
  | 24, _, _ => ov_24 h
  | 25, _, _ => ov_25 h
  | 26, _, _ => ov_26 h
  | 27, _, _ => ov_27 h
  | 28, _, _ => ov_28 h
  | 29, _, _ => ov_29 h
  | 30, _, _ => ov_30 h
  | 31, _, _ => ov_31 h
  | 32, _, _ => ov_32 h
  | 33, _, _ => ov_33 h
  | 34, _, _ => ov_34 h
  | 35, _, _ => ov_35 h
  | 36, _, _ => ov_36 h
  | 37, _, _ => ov_37 h
  | 38, _, _ => ov_38 h
  | 39, _, _ => ov_39 h
  | 40, _, _ => ov_40 h
  | 41, _, _ => ov_41 h
  | 42, _, _ => ov_42 h
  | 43, _, _ => ov_43 h
  | 44, _, _ => ov_44 h
  | 45, _, _ => ov_45 h
  | 46, _, _ => ov_46 h
  | 47, _, _ => ov_47 h
  | 48, _, _ => ov_48 h
  | 49, _, _ => ov_49 h
  | 50, _, _ => ov_50 h
  | 51, _, _ => ov_51 h
  | 52, _, _ => ov_52 h
  | 53, _, _ => ov_53 h
  | 54, _, _ => ov_54 h
  | 55, _, _ => ov_55 h
  | 56, _, _ => ov_56 h
  | 57, _, _ => ov_57 h
  | 58, _, _ => ov_58 h
  | 59, _, _ => ov_59 h
  | 60, _, _ => ov_60 h
  | 61, _, _ => ov_61 h
  | 62, _, _ => ov_62 h
  | 63, _, _ => ov_63 h
  | 64, _, _ => ov_64 h
  | 65, _, _ => ov_65 h
  | 66, _, _ => ov_66 h
  | 67, _, _ => ov_67 h
  | 68, _, _ => ov_68 h
  | 69, _, _ => ov_69 h
  | 70, _, _ => ov_70 h
  | 71, _, _ => ov_71 h
  | 72, _, _ => ov_72 h
  | 73, _, _ => ov_73 h
  | 74, _, _ => ov_74 h
  | 0, h', _ | 1, h', _ | 2, h', _ | 3, h', _ | 4, h', _ | 5, h', _ | 6, h', _ | 7, h', _ | 8, h', _ | 9, h', _ | 10, h', _ | 11, h', _ | 12, h', _ | 13, h', _ | 14, h', _ | 15, h', _ | 16, h', _ | 17, h', _ => by omega
  | n + 75, _, h' => by omega

def groupOk (n : Nat) : Bool := decide (18 ≤ n ∧ n ≤ 74) || decide (111 ≤ n)

theorem group_in : (List.range 111).all (fun n => match op_Group (n : Int) with | some g => (g == 1) == decide (18 ≤ n ∧ n ≤ 74) | none => false) = true := by kernel_rfl

theorem need_in : (List.range 57).all (fun n => match op_Needs ((n + 18 : Nat) : Int) with | some g => g == (need (n + 18) : Int) | none => false) = true := by kernel_rfl

theorem group_far {o : Int} (h : o < 0 ∨ 111 ≤ o) : op_Group o = some (-1) := by
  have h1 : op_in o = some false := by
    unfold op_in op_in_t
    by_cases h0 : o ≥ 0
    · rw [ct h0, decide_eq_false (by omega)]
    · rw [cf h0]
  unfold op_Group op_Group_t op_of op_of_t
  rw [h1]; rfl

end Go.Proofs.Dbl
