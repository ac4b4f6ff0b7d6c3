import Derived.Test.YtgchjlbhmfbgaaaGreatDoorSuXF
import Derived.Test.YtgchjlbhmfbgaaaGreatDoorSuXG
import Derived.Test.YtgchjlbhmfbgaaaGreatDoorSuXH
namespace Go.Proofs.Dbl
open Go Go.TX Go.Proofs
set_option maxRecDepth 100000
set_option linter.unusedVariables false
set_option maxHeartbeats 0
noncomputable def Do_tab (n : Nat) (d : List Int) : Option (List Int × Int) :=
  match n with
  | 18 => Do_18 d
  | 19 => Do_19 d
  | 20 => Do_20 d
  | 21 => Do_21 d
  | 22 => Do_22 d
  | 23 => Do_23 d
  | 24 => Do_24 d
  | 25 => Do_25 d
  | 26 => Do_26 d
  | 27 => Do_27 d
  | 28 => Do_28 d
  | 29 => Do_29 d
  | 30 => Do_30 d
  | 31 => Do_31 d
  | 32 => Do_32 d
  | 33 => Do_33 d
  | 34 => Do_34 d
  | 35 => Do_35 d
  | 36 => Do_36 d
  | 37 => Do_37 d
  | 38 => Do_38 d
  | 39 => Do_39 d
  | 40 => Do_40 d
  | 41 => Do_41 d
  | 42 => Do_42 d
  | 43 => Do_43 d
  | 44 => Do_44 d
  | 45 => Do_45 d
  | 46 => Do_46 d
  | 47 => Do_47 d
  | 48 => Do_48 d
  | 49 => Do_49 d
  | 50 => Do_50 d
  | 51 => Do_51 d
  | 52 => Do_52 d
  | 53 => Do_53 d
  | 54 => Do_54 d
  | 55 => Do_55 d
  | 56 => Do_56 d
  | 57 => Do_57 d
  | 58 => Do_58 d
  | 59 => Do_59 d
  | 60 => Do_60 d
  | 61 => Do_61 d
  | 62 => Do_62 d
  | 63 => Do_63 d
  | 64 => Do_64 d
  | 65 => Do_65 d
  | 66 => Do_66 d
  | 67 => Do_67 d
  | 68 => Do_68 d
  | 69 => Do_69 d
  | 70 => Do_70 d
  | 71 => Do_71 d
  | 72 => Do_72 d
  | 73 => Do_73 d
  | 74 => Do_74 d
  | _ => none
noncomputable def pure_Do (o : Int) (d : List Int) : Option (List Int × Int) := if 18 ≤ o ∧ o ≤ 74 then Do_tab o.toNat d else outOf (op_Group o) fun g => cond (g != (1 : Int)) (some (d, (-21 : Int))) none
noncomputable def pure_Do_sp : TX.Spec := specD [.val (.int .i64), .val (.sl (.int .i64))] [] fun _ a m k => match a, m with | ⟨a0, a1, _⟩, _ => outOf (pure_Do a0 a1) fun v => k (.tup [.sl (.int .i64) v.1 false, .lit (.int .i64 v.2)]) []
theorem Do_tab_ev {α : Type} (d : List Int) (k : Kont α) : ∀ n : Nat, 18 ≤ n → n ≤ 74 → ∃ (h : Hints) (fuel : Nat), h.OK Tryz.prog (bodyOf Tryz.f26) ∧ h.n0 = 0 ∧
    evFun Tryz.prog SrEE7 h false Tryz.f26 (bodyOf Tryz.f26) fuel (mkS [.val (.int .i64), .val (.sl (.int .i64))] ((n : Int), d, ())) (mkH [] ()) (fun v H => k (weakF v) H) = outOf (Do_tab n d) fun v => k (.tup [.sl (.int .i64) v.1 false, .lit (.int .i64 v.2)]) []
  | 18, _, _ => ⟨Do_18_h0, 200, Do_18_h0_ok, rfl, Do_18_ev d k⟩
  | 19, _, _ => ⟨Do_19_h0, 200, Do_19_h0_ok, rfl, Do_19_ev d k⟩
  | 20, _, _ => ⟨Do_20_h0, 200, Do_20_h0_ok, rfl, Do_20_ev d k⟩
  | 21, _, _ => ⟨Do_21_h0, 200, Do_21_h0_ok, rfl, Do_21_ev d k⟩
  | 22, _, _ => ⟨Do_22_h0, 200, Do_22_h0_ok, rfl, Do_22_ev d k⟩
  | 23, _, _ => ⟨Do_23_h0, 200, Do_23_h0_ok, rfl, Do_23_ev d k⟩
  | 24, _, _ => ⟨Do_24_h0, 200, Do_24_h0_ok, rfl, Do_24_ev d k⟩
  | 25, _, _ => ⟨Do_25_h0, 200, Do_25_h0_ok, rfl, Do_25_ev d k⟩
  | 26, _, _ => ⟨Do_26_h0, 200, Do_26_h0_ok, rfl, Do_26_ev d k⟩
  | 27, _, _ => ⟨Do_27_h0, 200, Do_27_h0_ok, rfl, Do_27_ev d k⟩
  | 28, _, _ => ⟨Do_28_h0, 200, Do_28_h0_ok, rfl, Do_28_ev d k⟩
  | 29, _, _ => ⟨Do_29_h0, 200, Do_29_h0_ok, rfl, Do_29_ev d k⟩
  | 30, _, _ => ⟨Do_30_h0, 200, Do_30_h0_ok, rfl, Do_30_ev d k⟩
  | 31, _, _ => ⟨Do_31_h0, 200, Do_31_h0_ok, rfl, Do_31_ev d k⟩
  | 32, _, _ => ⟨Do_32_h0, 200, Do_32_h0_ok, rfl, Do_32_ev d k⟩
  | 33, _, _ => ⟨Do_33_h0, 200, Do_33_h0_ok, rfl, Do_33_ev d k⟩
  | 34, _, _ => ⟨Do_34_h0, 200, Do_34_h0_ok, rfl, Do_34_ev d k⟩
  | 35, _, _ => ⟨Do_35_h0, 200, Do_35_h0_ok, rfl, Do_35_ev d k⟩
  | 36, _, _ => ⟨Do_36_h0, 200, Do_36_h0_ok, rfl, Do_36_ev d k⟩
  | 37, _, _ => ⟨Do_37_h0, 200, Do_37_h0_ok, rfl, Do_37_ev d k⟩
  | 38, _, _ => ⟨Do_38_h0, 200, Do_38_h0_ok, rfl, Do_38_ev d k⟩
  | 39, _, _ => ⟨Do_39_h0, 200, Do_39_h0_ok, rfl, Do_39_ev d k⟩
  | 40, _, _ => ⟨Do_40_h0, 200, Do_40_h0_ok, rfl, Do_40_ev d k⟩
  | 41, _, _ => ⟨Do_41_h0, 200, Do_41_h0_ok, rfl, Do_41_ev d k⟩
  | 42, _, _ => ⟨Do_42_h0, 200, Do_42_h0_ok, rfl, Do_42_ev d k⟩
  | 43, _, _ => ⟨Do_43_h0, 200, Do_43_h0_ok, rfl, Do_43_ev d k⟩
  | 44, _, _ => ⟨Do_44_h0, 200, Do_44_h0_ok, rfl, Do_44_ev d k⟩
  | 45, _, _ => ⟨Do_45_h0, 200, Do_45_h0_ok, rfl, Do_45_ev d k⟩
  | 46, _, _ => ⟨Do_46_h0, 200, Do_46_h0_ok, rfl, Do_46_ev d k⟩
  | 47, _, _ => ⟨Do_47_h0, 200, Do_47_h0_ok, rfl, Do_47_ev d k⟩
  | 48, _, _ => ⟨Do_48_h0, 200, Do_48_h0_ok, rfl, Do_48_ev d k⟩
  | 49, _, _ => ⟨Do_49_h0, 200, Do_49_h0_ok, rfl, Do_49_ev d k⟩
  | 50, _, _ => ⟨Do_50_h0, 200, Do_50_h0_ok, rfl, Do_50_ev d k⟩
  | 51, _, _ => ⟨Do_51_h0, 200, Do_51_h0_ok, rfl, Do_51_ev d k⟩
  | 52, _, _ => ⟨Do_52_h0, 200, Do_52_h0_ok, rfl, Do_52_ev d k⟩
  | 53, _, _ => ⟨Do_53_h0, 200, Do_53_h0_ok, rfl, Do_53_ev d k⟩
  | 54, _, _ => ⟨Do_54_h0, 200, Do_54_h0_ok, rfl, Do_54_ev d k⟩
  | 55, _, _ => ⟨Do_55_h0, 200, Do_55_h0_ok, rfl, Do_55_ev d k⟩
  | 56, _, _ => ⟨Do_56_h0, 200, Do_56_h0_ok, rfl, Do_56_ev d k⟩
  | 57, _, _ => ⟨Do_57_h0, 200, Do_57_h0_ok, rfl, Do_57_ev d k⟩
  | 58, _, _ => ⟨Do_58_h0, 200, Do_58_h0_ok, rfl, Do_58_ev d k⟩
  | 59, _, _ => ⟨Do_59_h0, 200, Do_59_h0_ok, rfl, Do_59_ev d k⟩
  | 60, _, _ => ⟨Do_60_h0, 200, Do_60_h0_ok, rfl, Do_60_ev d k⟩
  | 61, _, _ => ⟨Do_61_h0, 200, Do_61_h0_ok, rfl, Do_61_ev d k⟩
  | 62, _, _ => ⟨Do_62_h0, 200, Do_62_h0_ok, rfl, Do_62_ev d k⟩
  | 63, _, _ => ⟨Do_63_h0, 200, Do_63_h0_ok, rfl, Do_63_ev d k⟩
  | 64, _, _ => ⟨Do_64_h0, 200, Do_64_h0_ok, rfl, Do_64_ev d k⟩
  | 65, _, _ => ⟨Do_65_h0, 200, Do_65_h0_ok, rfl, Do_65_ev d k⟩
  | 66, _, _ => ⟨Do_66_h0, 200, Do_66_h0_ok, rfl, Do_66_ev d k⟩
  | 67, _, _ => ⟨Do_67_h0, 200, Do_67_h0_ok, rfl, Do_67_ev d k⟩
  | 68, _, _ => ⟨Do_68_h0, 200, Do_68_h0_ok, rfl, Do_68_ev d k⟩
  | 69, _, _ => ⟨Do_69_h0, 200, Do_69_h0_ok, rfl, Do_69_ev d k⟩
  | 70, _, _ => ⟨Do_70_h0, 200, Do_70_h0_ok, rfl, Do_70_ev d k⟩
  | 71, _, _ => ⟨Do_71_h0, 200, Do_71_h0_ok, rfl, Do_71_ev d k⟩
  | 72, _, _ => ⟨Do_72_h0, 200, Do_72_h0_ok, rfl, Do_72_ev d k⟩
  | 73, _, _ => ⟨Do_73_h0, 200, Do_73_h0_ok, rfl, Do_73_ev d k⟩
  | 74, _, _ => ⟨Do_74_h0, 200, Do_74_h0_ok, rfl, Do_74_ev d k⟩
  | 0, h, _ | 1, h, _ | 2, h, _ | 3, h, _ | 4, h, _ | 5, h, _ | 6, h, _ | 7, h, _ | 8, h, _ | 9, h, _ | 10, h, _ | 11, h, _ | 12, h, _ | 13, h, _ | 14, h, _ | 15, h, _ | 16, h, _ | 17, h, _ => by omega
  | n + 75, _, h => by omega
def Do_hd : Hints := (Hints.nil 0).add [1, 1] noSp
theorem Do_hd_ok : Do_hd.OK Tryz.prog (bodyOf Tryz.f26) := Hints.nil_ok.add (show codeAt (bodyOf Tryz.f26) [1, 1] = some ((codeAt (bodyOf Tryz.f26) [1, 1]).getD .skip) from by kernel_rfl) noSp_ok
theorem Do_el_ev {α : Type} (o : Int) (d : List Int) (k : Kont α) : evFun Tryz.prog SrEE7 Do_hd false Tryz.f26 (bodyOf Tryz.f26) 200 (mkS [.val (.int .i64), .val (.sl (.int .i64))] (o, d, ())) (mkH [] ()) (fun v H => k (weakF v) H) =
    outOf (op_Group o) fun g => cond (g != (1 : Int)) (k (.tup [.sl (.int .i64) d false, .lit (.int .i64 (-21))]) []) none := by kernel_rfl
theorem pure_Do_ev {α : Type} (o : Int) (d : List Int) (k : Kont α) (r : α) (h : outOf (pure_Do o d) (fun v => k (.tup [.sl (.int .i64) v.1 false, .lit (.int .i64 v.2)]) []) = some r) :
    ∃ (h : Hints) (fuel : Nat), h.OK Tryz.prog (bodyOf Tryz.f26) ∧ h.n0 = 0 ∧ evFun Tryz.prog SrEE7 h false Tryz.f26 (bodyOf Tryz.f26) fuel (mkS [.val (.int .i64), .val (.sl (.int .i64))] (o, d, ())) (mkH [] ()) (fun v H => k (weakF v) H) = some r := by
  unfold pure_Do at h
  by_cases g : 18 ≤ o ∧ o ≤ 74
  · rw [if_pos g] at h
    obtain ⟨h1, f1, g1, g2, g3⟩ := Do_tab_ev d k o.toNat (by omega) (by omega)
    rw [Int.toNat_of_nonneg (by omega)] at g3
    exact ⟨h1, f1, g1, g2, g3.trans h⟩
  · rw [if_neg g] at h
    refine ⟨Do_hd, 200, Do_hd_ok, rfl, (Do_el_ev o d k).trans ?_⟩
    cases hg : op_Group o with
    | none => rw [hg] at h; cases h
    | some x =>
      rw [hg] at h
      show cond (x != (1 : Int)) (k (.tup [.sl (.int .i64) d false, .lit (.int .i64 (-21))]) []) none = some r
      change outOf (cond (x != (1 : Int)) (some (d, (-21 : Int))) none) (fun v => k (.tup [.sl (.int .i64) v.1 false, .lit (.int .i64 v.2)]) []) = some r at h
      cases hx : (x != (1 : Int))
      · rw [hx] at h; cases h
      · rw [hx] at h; exact h
theorem pure_Do_good : TX.Good Tryz.prog 26 pure_Do_sp := good_form_weak2 SrEE7_ok mixed Tryz.func26 (body_of rfl) (by kernel_rfl) false fun α a m k r h => by
  obtain ⟨o, d, _⟩ := a
  exact pure_Do_ev o d k r h
noncomputable def SuE3 : Env := SrEE7.add 26 true pure_Do_sp
theorem SuE3_ok : SuE3.OK Tryz.prog := SrEE7_ok.add_ok pure_Do_good
end Go.Proofs.Dbl
