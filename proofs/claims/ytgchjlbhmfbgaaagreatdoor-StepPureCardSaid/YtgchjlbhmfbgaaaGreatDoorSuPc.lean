/- An operation on the stack alone that throws leaves the stack as it was. -/
import Derived.Test.YtgchjlbhmfbgaaaGreatDoorSuQ
namespace Go.Proofs.Dbl
open Go Go.TX Go.Proofs
set_option maxRecDepth 100000
set_option maxHeartbeats 0
set_option linter.unusedVariables false
set_option linter.unusedSimpArgs false

def Kp (o : Option (List Int × Int)) (d : List Int) : Prop := ∀ d' e, o = some (d', e) → e ≠ 0 → d' = d
theorem Kp.no {d : List Int} : Kp none d := fun _ _ h => by cases h
theorem Kp.er {d : List Int} {e : Int} : Kp (some (d, e)) d := fun _ _ h _ => by cases h; rfl
theorem Kp.ok {d x : List Int} : Kp (some (x, 0)) d := fun _ _ h he => by cases h; exact absurd rfl he
theorem Kp.cd {b : Bool} {X Y : Option (List Int × Int)} {d : List Int} (h1 : Kp X d) (h2 : Kp Y d) : Kp (cond b X Y) d := by cases b <;> assumption
theorem Kp.bd {A : Type} {r : Option A} {f : A → Option (List Int × Int)} {d : List Int} (h : ∀ x, Kp (f x) d) : Kp (outOf r f) d := by
  cases r with
  | none => exact Kp.no
  | some x => exact h x

theorem kp_18 (d : List Int) : Kp (Do_18 d) d := by
  unfold Do_18 Do_18_t
  repeat (first | exact Kp.no | exact Kp.er | exact Kp.ok | apply Kp.cd | (apply Kp.bd; intro _))
theorem kp_19 (d : List Int) : Kp (Do_19 d) d := by
  unfold Do_19 Do_19_t
  repeat (first | exact Kp.no | exact Kp.er | exact Kp.ok | apply Kp.cd | (apply Kp.bd; intro _))
theorem kp_20 (d : List Int) : Kp (Do_20 d) d := by
  unfold Do_20 Do_20_t
  repeat (first | exact Kp.no | exact Kp.er | exact Kp.ok | apply Kp.cd | (apply Kp.bd; intro _))
theorem kp_21 (d : List Int) : Kp (Do_21 d) d := by
  unfold Do_21 Do_21_t
  repeat (first | exact Kp.no | exact Kp.er | exact Kp.ok | apply Kp.cd | (apply Kp.bd; intro _))
theorem kp_22 (d : List Int) : Kp (Do_22 d) d := by
  unfold Do_22 Do_22_t
  repeat (first | exact Kp.no | exact Kp.er | exact Kp.ok | apply Kp.cd | (apply Kp.bd; intro _))
theorem kp_23 (d : List Int) : Kp (Do_23 d) d := by
  unfold Do_23 Do_23_t
  repeat (first | exact Kp.no | exact Kp.er | exact Kp.ok | apply Kp.cd | (apply Kp.bd; intro _))
theorem kp_24 (d : List Int) : Kp (Do_24 d) d := by
  unfold Do_24 Do_24_t
  repeat (first | exact Kp.no | exact Kp.er | exact Kp.ok | apply Kp.cd | (apply Kp.bd; intro _))
theorem kp_25 (d : List Int) : Kp (Do_25 d) d := by
  unfold Do_25 Do_25_t
  repeat (first | exact Kp.no | exact Kp.er | exact Kp.ok | apply Kp.cd | (apply Kp.bd; intro _))
theorem kp_26 (d : List Int) : Kp (Do_26 d) d := by
  unfold Do_26 Do_26_t
  repeat (first | exact Kp.no | exact Kp.er | exact Kp.ok | apply Kp.cd | (apply Kp.bd; intro _))
theorem kp_27 (d : List Int) : Kp (Do_27 d) d := by
  unfold Do_27 Do_27_t
  repeat (first | exact Kp.no | exact Kp.er | exact Kp.ok | apply Kp.cd | (apply Kp.bd; intro _))
theorem kp_28 (d : List Int) : Kp (Do_28 d) d := by
  unfold Do_28 Do_28_t
  repeat (first | exact Kp.no | exact Kp.er | exact Kp.ok | apply Kp.cd | (apply Kp.bd; intro _))
theorem kp_29 (d : List Int) : Kp (Do_29 d) d := by
  unfold Do_29 Do_29_t
  repeat (first | exact Kp.no | exact Kp.er | exact Kp.ok | apply Kp.cd | (apply Kp.bd; intro _))
theorem kp_30 (d : List Int) : Kp (Do_30 d) d := by
  unfold Do_30 Do_30_t
  repeat (first | exact Kp.no | exact Kp.er | exact Kp.ok | apply Kp.cd | (apply Kp.bd; intro _))
theorem kp_31 (d : List Int) : Kp (Do_31 d) d := by
  unfold Do_31 Do_31_t
  repeat (first | exact Kp.no | exact Kp.er | exact Kp.ok | apply Kp.cd | (apply Kp.bd; intro _))
theorem kp_32 (d : List Int) : Kp (Do_32 d) d := by
  unfold Do_32 Do_32_t
  repeat (first | exact Kp.no | exact Kp.er | exact Kp.ok | apply Kp.cd | (apply Kp.bd; intro _))
theorem kp_33 (d : List Int) : Kp (Do_33 d) d := by
  unfold Do_33 Do_33_t
  repeat (first | exact Kp.no | exact Kp.er | exact Kp.ok | apply Kp.cd | (apply Kp.bd; intro _))
theorem kp_34 (d : List Int) : Kp (Do_34 d) d := by
  unfold Do_34 Do_34_t
  repeat (first | exact Kp.no | exact Kp.er | exact Kp.ok | apply Kp.cd | (apply Kp.bd; intro _))
theorem kp_35 (d : List Int) : Kp (Do_35 d) d := by
  unfold Do_35 Do_35_t
  repeat (first | exact Kp.no | exact Kp.er | exact Kp.ok | apply Kp.cd | (apply Kp.bd; intro _))
theorem kp_36 (d : List Int) : Kp (Do_36 d) d := by
  unfold Do_36 Do_36_t
  repeat (first | exact Kp.no | exact Kp.er | exact Kp.ok | apply Kp.cd | (apply Kp.bd; intro _))
theorem kp_37 (d : List Int) : Kp (Do_37 d) d := by
  unfold Do_37 Do_37_t
  repeat (first | exact Kp.no | exact Kp.er | exact Kp.ok | apply Kp.cd | (apply Kp.bd; intro _))
theorem kp_38 (d : List Int) : Kp (Do_38 d) d := by
  unfold Do_38 Do_38_t
  repeat (first | exact Kp.no | exact Kp.er | exact Kp.ok | apply Kp.cd | (apply Kp.bd; intro _))
theorem kp_39 (d : List Int) : Kp (Do_39 d) d := by
  unfold Do_39 Do_39_t
  repeat (first | exact Kp.no | exact Kp.er | exact Kp.ok | apply Kp.cd | (apply Kp.bd; intro _))
theorem kp_40 (d : List Int) : Kp (Do_40 d) d := by
  unfold Do_40 Do_40_t
  repeat (first | exact Kp.no | exact Kp.er | exact Kp.ok | apply Kp.cd | (apply Kp.bd; intro _))
theorem kp_41 (d : List Int) : Kp (Do_41 d) d := by
  unfold Do_41 Do_41_t
  repeat (first | exact Kp.no | exact Kp.er | exact Kp.ok | apply Kp.cd | (apply Kp.bd; intro _))
theorem kp_42 (d : List Int) : Kp (Do_42 d) d := by
  unfold Do_42 Do_42_t
  repeat (first | exact Kp.no | exact Kp.er | exact Kp.ok | apply Kp.cd | (apply Kp.bd; intro _))
theorem kp_43 (d : List Int) : Kp (Do_43 d) d := by
  unfold Do_43 Do_43_t
  repeat (first | exact Kp.no | exact Kp.er | exact Kp.ok | apply Kp.cd | (apply Kp.bd; intro _))
theorem kp_44 (d : List Int) : Kp (Do_44 d) d := by
  unfold Do_44 Do_44_t
  repeat (first | exact Kp.no | exact Kp.er | exact Kp.ok | apply Kp.cd | (apply Kp.bd; intro _))
theorem kp_45 (d : List Int) : Kp (Do_45 d) d := by
  unfold Do_45 Do_45_t
  repeat (first | exact Kp.no | exact Kp.er | exact Kp.ok | apply Kp.cd | (apply Kp.bd; intro _))
theorem kp_46 (d : List Int) : Kp (Do_46 d) d := by
  unfold Do_46 Do_46_t
  repeat (first | exact Kp.no | exact Kp.er | exact Kp.ok | apply Kp.cd | (apply Kp.bd; intro _))
theorem kp_47 (d : List Int) : Kp (Do_47 d) d := by
  unfold Do_47 Do_47_t
  repeat (first | exact Kp.no | exact Kp.er | exact Kp.ok | apply Kp.cd | (apply Kp.bd; intro _))
theorem kp_48 (d : List Int) : Kp (Do_48 d) d := by
  unfold Do_48 Do_48_t
  repeat (first | exact Kp.no | exact Kp.er | exact Kp.ok | apply Kp.cd | (apply Kp.bd; intro _))
theorem kp_49 (d : List Int) : Kp (Do_49 d) d := by
  unfold Do_49 Do_49_t
  repeat (first | exact Kp.no | exact Kp.er | exact Kp.ok | apply Kp.cd | (apply Kp.bd; intro _))
theorem kp_50 (d : List Int) : Kp (Do_50 d) d := by
  unfold Do_50 Do_50_t
  repeat (first | exact Kp.no | exact Kp.er | exact Kp.ok | apply Kp.cd | (apply Kp.bd; intro _))
theorem kp_51 (d : List Int) : Kp (Do_51 d) d := by
  unfold Do_51 Do_51_t
  repeat (first | exact Kp.no | exact Kp.er | exact Kp.ok | apply Kp.cd | (apply Kp.bd; intro _))
theorem kp_52 (d : List Int) : Kp (Do_52 d) d := by
  unfold Do_52 Do_52_t
  repeat (first | exact Kp.no | exact Kp.er | exact Kp.ok | apply Kp.cd | (apply Kp.bd; intro _))
theorem kp_53 (d : List Int) : Kp (Do_53 d) d := by
  unfold Do_53 Do_53_t
  repeat (first | exact Kp.no | exact Kp.er | exact Kp.ok | apply Kp.cd | (apply Kp.bd; intro _))
theorem kp_54 (d : List Int) : Kp (Do_54 d) d := by
  unfold Do_54 Do_54_t
  repeat (first | exact Kp.no | exact Kp.er | exact Kp.ok | apply Kp.cd | (apply Kp.bd; intro _))
theorem kp_55 (d : List Int) : Kp (Do_55 d) d := by
  unfold Do_55 Do_55_t
  repeat (first | exact Kp.no | exact Kp.er | exact Kp.ok | apply Kp.cd | (apply Kp.bd; intro _))
theorem kp_56 (d : List Int) : Kp (Do_56 d) d := by
  unfold Do_56 Do_56_t
  repeat (first | exact Kp.no | exact Kp.er | exact Kp.ok | apply Kp.cd | (apply Kp.bd; intro _))
theorem kp_57 (d : List Int) : Kp (Do_57 d) d := by
  unfold Do_57 Do_57_t
  repeat (first | exact Kp.no | exact Kp.er | exact Kp.ok | apply Kp.cd | (apply Kp.bd; intro _))
theorem kp_58 (d : List Int) : Kp (Do_58 d) d := by
  unfold Do_58 Do_58_t
  repeat (first | exact Kp.no | exact Kp.er | exact Kp.ok | apply Kp.cd | (apply Kp.bd; intro _))
theorem kp_59 (d : List Int) : Kp (Do_59 d) d := by
  unfold Do_59 Do_59_t
  repeat (first | exact Kp.no | exact Kp.er | exact Kp.ok | apply Kp.cd | (apply Kp.bd; intro _))
theorem kp_60 (d : List Int) : Kp (Do_60 d) d := by
  unfold Do_60 Do_60_t
  repeat (first | exact Kp.no | exact Kp.er | exact Kp.ok | apply Kp.cd | (apply Kp.bd; intro _))
theorem kp_61 (d : List Int) : Kp (Do_61 d) d := by
  unfold Do_61 Do_61_t
  repeat (first | exact Kp.no | exact Kp.er | exact Kp.ok | apply Kp.cd | (apply Kp.bd; intro _))
theorem kp_62 (d : List Int) : Kp (Do_62 d) d := by
  unfold Do_62 Do_62_t
  repeat (first | exact Kp.no | exact Kp.er | exact Kp.ok | apply Kp.cd | (apply Kp.bd; intro _))
theorem kp_63 (d : List Int) : Kp (Do_63 d) d := by
  unfold Do_63 Do_63_t
  repeat (first | exact Kp.no | exact Kp.er | exact Kp.ok | apply Kp.cd | (apply Kp.bd; intro _))
theorem kp_64 (d : List Int) : Kp (Do_64 d) d := by
  unfold Do_64 Do_64_t
  repeat (first | exact Kp.no | exact Kp.er | exact Kp.ok | apply Kp.cd | (apply Kp.bd; intro _))
theorem kp_65 (d : List Int) : Kp (Do_65 d) d := by
  unfold Do_65 Do_65_t
  repeat (first | exact Kp.no | exact Kp.er | exact Kp.ok | apply Kp.cd | (apply Kp.bd; intro _))
theorem kp_66 (d : List Int) : Kp (Do_66 d) d := by
  unfold Do_66 Do_66_t
  repeat (first | exact Kp.no | exact Kp.er | exact Kp.ok | apply Kp.cd | (apply Kp.bd; intro _))
theorem kp_67 (d : List Int) : Kp (Do_67 d) d := by
  unfold Do_67 Do_67_t
  repeat (first | exact Kp.no | exact Kp.er | exact Kp.ok | apply Kp.cd | (apply Kp.bd; intro _))
theorem kp_68 (d : List Int) : Kp (Do_68 d) d := by
  unfold Do_68 Do_68_t
  repeat (first | exact Kp.no | exact Kp.er | exact Kp.ok | apply Kp.cd | (apply Kp.bd; intro _))
theorem kp_69 (d : List Int) : Kp (Do_69 d) d := by
  unfold Do_69 Do_69_t
  repeat (first | exact Kp.no | exact Kp.er | exact Kp.ok | apply Kp.cd | (apply Kp.bd; intro _))
theorem kp_70 (d : List Int) : Kp (Do_70 d) d := by
  unfold Do_70 Do_70_t
  repeat (first | exact Kp.no | exact Kp.er | exact Kp.ok | apply Kp.cd | (apply Kp.bd; intro _))
theorem kp_71 (d : List Int) : Kp (Do_71 d) d := by
  unfold Do_71 Do_71_t
  repeat (first | exact Kp.no | exact Kp.er | exact Kp.ok | apply Kp.cd | (apply Kp.bd; intro _))
theorem kp_72 (d : List Int) : Kp (Do_72 d) d := by
  unfold Do_72 Do_72_t
  repeat (first | exact Kp.no | exact Kp.er | exact Kp.ok | apply Kp.cd | (apply Kp.bd; intro _))
theorem kp_73 (d : List Int) : Kp (Do_73 d) d := by
  unfold Do_73 Do_73_t
  repeat (first | exact Kp.no | exact Kp.er | exact Kp.ok | apply Kp.cd | (apply Kp.bd; intro _))
theorem kp_74 (d : List Int) : Kp (Do_74 d) d := by
  unfold Do_74 Do_74_t
  repeat (first | exact Kp.no | exact Kp.er | exact Kp.ok | apply Kp.cd | (apply Kp.bd; intro _))
theorem kp_tab (d : List Int) : ∀ k : Nat, 18 ≤ k → k ≤ 74 → Kp (Do_tab k d) d
  | 18, _, _ => kp_18 d
  | 19, _, _ => kp_19 d
  | 20, _, _ => kp_20 d
  | 21, _, _ => kp_21 d
  | 22, _, _ => kp_22 d
  | 23, _, _ => kp_23 d
  | 24, _, _ => kp_24 d
  | 25, _, _ => kp_25 d
  | 26, _, _ => kp_26 d
  | 27, _, _ => kp_27 d
  | 28, _, _ => kp_28 d
  | 29, _, _ => kp_29 d
  | 30, _, _ => kp_30 d
  | 31, _, _ => kp_31 d
  | 32, _, _ => kp_32 d
  | 33, _, _ => kp_33 d
  | 34, _, _ => kp_34 d
  | 35, _, _ => kp_35 d
  | 36, _, _ => kp_36 d
  | 37, _, _ => kp_37 d
  | 38, _, _ => kp_38 d
  | 39, _, _ => kp_39 d
  | 40, _, _ => kp_40 d
  | 41, _, _ => kp_41 d
  | 42, _, _ => kp_42 d
  | 43, _, _ => kp_43 d
  | 44, _, _ => kp_44 d
  | 45, _, _ => kp_45 d
  | 46, _, _ => kp_46 d
  | 47, _, _ => kp_47 d
  | 48, _, _ => kp_48 d
  | 49, _, _ => kp_49 d
  | 50, _, _ => kp_50 d
  | 51, _, _ => kp_51 d
  | 52, _, _ => kp_52 d
  | 53, _, _ => kp_53 d
  | 54, _, _ => kp_54 d
  | 55, _, _ => kp_55 d
  | 56, _, _ => kp_56 d
  | 57, _, _ => kp_57 d
  | 58, _, _ => kp_58 d
  | 59, _, _ => kp_59 d
  | 60, _, _ => kp_60 d
  | 61, _, _ => kp_61 d
  | 62, _, _ => kp_62 d
  | 63, _, _ => kp_63 d
  | 64, _, _ => kp_64 d
  | 65, _, _ => kp_65 d
  | 66, _, _ => kp_66 d
  | 67, _, _ => kp_67 d
  | 68, _, _ => kp_68 d
  | 69, _, _ => kp_69 d
  | 70, _, _ => kp_70 d
  | 71, _, _ => kp_71 d
  | 72, _, _ => kp_72 d
  | 73, _, _ => kp_73 d
  | 74, _, _ => kp_74 d
  | 0, h, _ | 1, h, _ | 2, h, _ | 3, h, _ | 4, h, _ | 5, h, _ | 6, h, _ | 7, h, _ | 8, h, _ | 9, h, _ | 10, h, _ | 11, h, _ | 12, h, _ | 13, h, _ | 14, h, _ | 15, h, _ | 16, h, _ | 17, h, _ => by omega
  | n + 75, _, h => by omega
end Go.Proofs.Dbl
