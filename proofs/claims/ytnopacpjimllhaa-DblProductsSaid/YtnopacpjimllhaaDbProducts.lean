/- DblProducts: for every input the law answers true and leaves its arguments as they were. -/
import Derived.Test.YtnopacpjimllhaaDbXP
import Derived.Test.YtnopacpjimllhaaDbPe
import Derived.Test.YtnopacpjimllhaaRows
import Derived.Test.YtnopacpjimllhaaTxS
namespace Go.Proofs.Ytnopacpjimllhaa
open Go Go.TX Go.Proofs Go.Proofs.Dbl
set_option maxRecDepth 100000
set_option maxHeartbeats 0
set_option linter.unusedVariables false

theorem ub_eq (x : Int × Int) : (x.1 == x.1 && (x.2 == x.2 && true)) = true := by simp

theorem prod_mod (a b : Int) : W (a % 18446744073709551616 * (b % 18446744073709551616)) = W (a * b) := by
  rw [W_eq, Int.sub_emod, ← Int.mul_emod, Int.sub_self]; rfl

theorem products_M1 {a b c : Int} (ha : Cell a) (hb : Cell b) (hc : Cell c) : lawProducts_M1 a b c (Int.fdiv a 4) (Int.fdiv b 4) = some (.inr ()) := by
  rw [fdiv_lit (by decide), fdiv_lit (by decide)]
  have hx : Cell (a / 4) := by unfold Cell at *; omega
  have hy : Cell (b / 4) := by unfold Cell at *; omega
  have hxy : Cell (a / 4 + b / 4) := by unfold Cell at *; omega
  unfold lawProducts_M1 lawProducts_M1_t
  simp only [Mul_eq ha hb, Mul_eq hb ha, Mul_eq hx hc, Mul_eq hy hc, wi, W_of hxy, Mul_eq hxy hc, outOf_some, UMul_eq]
  have hadd := Add_eq (a / 4 * c) (b / 4 * c)
  rw [← Int.add_mul] at hadd
  rw [show dbl_Add (Pd (a / 4 * c)).fst (Pd (a / 4 * c)).snd (Pd (b / 4 * c)).fst (Pd (b / 4 * c)).snd = some (Pd ((a / 4 + b / 4) * c)) from hadd]
  simp only [outOf_some]
  rw [Int.mul_comm b a, Int.mul_comm (b % 18446744073709551616)]
  have e1 : (Pd (a * b)).fst = W (a * b) := rfl
  have e2 : (Pd (a % 18446744073709551616 * (b % 18446744073709551616))).fst = W (a * b) := prod_mod a b
  rw [e2, e1]
  simp

theorem products_val {a b c : Int} (ha : Cell a) (hb : Cell b) (hc : Cell c) : lawProducts a b c = some true := by
  have h1 : Cell (-1) := by unfold Cell; omega
  unfold lawProducts lawProducts_t
  simp only [Mul_eq ha hb, Mul_eq h1 hc, outOf_some, products_M1 ha hb hc, sumOf_inr]
  rw [Symm_eq (show Cell (Pd (a * b)).fst from W_cell _) (show Cell (Pd (a * b)).snd from W_cell _) hb, S_of (mul_range ha hb), Of_eq hc]
  rw [show dbl_Neg (Pd c).fst (Pd c).snd = some (Pd (-c)) from Neg_eq c, UMul_eq]
  rw [UMod_eq (show Cell (Pd _).fst from W_cell _) (show Cell (Pd _).snd from W_cell _) hb]
  simp only [outOf_some]
  have e : (-1 : Int) * c = -c := by omega
  rw [e]
  by_cases h0 : b = 0
  · subst h0; simp
  · have hU : 0 < b % 18446744073709551616 := by unfold Cell at hb; omega
    have hA0 : 0 ≤ a % 18446744073709551616 := by omega
    have hp0 : 0 ≤ a % 18446744073709551616 * (b % 18446744073709551616) := Int.mul_nonneg hA0 (by omega)
    have hp1 : a % 18446744073709551616 * (b % 18446744073709551616) < 18446744073709551616 * (b % 18446744073709551616) := Int.mul_lt_mul_of_pos_right (by omega) hU
    have hD : D (Pd (a % 18446744073709551616 * (b % 18446744073709551616))).fst (Pd (a % 18446744073709551616 * (b % 18446744073709551616))).snd = a % 18446744073709551616 * (b % 18446744073709551616) := D_Pd hp0 (by omega)
    have hlt : (Pd (a % 18446744073709551616 * (b % 18446744073709551616))).snd % 18446744073709551616 < b % 18446744073709551616 := by
      unfold Pd W; simp only
      omega
    rw [if_neg h0, if_neg h0, if_pos hlt, hD, Int.mul_tdiv_cancel a h0, if_pos ha, Int.mul_tmod_left, Int.mul_emod_left, Int.mul_ediv_cancel _ (by omega), W_mod, W_of ha, beq_eq_false_iff_ne.2 h0]
    simp
    decide

theorem dblProducts_plain : ∀ d : DenL [.int .i64, .int .i64, .int .i64], FitsL reachBytes [.int .i64, .int .i64, .int .i64] d →
    lawProducts_sp (AV × Heap) (argsAV Try.prog Try.f7.params.toList [.int .i64, .int .i64, .int .i64] d) [] (fun v H => some (v, H)) = some (.lit (.bool true), []) := by
  rintro ⟨a, b, c, _⟩ ⟨ha, hb, hc, _⟩
  show outOf (lawProducts a b c) (fun v => some (AV.lit (.bool v), [])) = _
  rw [products_val ha hb hc]
  rfl

theorem dblProducts_run : ∀ d : DenL [.int .i64, .int .i64, .int .i64], FitsL reachBytes [.int .i64, .int .i64, .int .i64] d →
    ∃ sp, TX.Good Try.prog 7 sp ∧ ∃ H', sp (AV × Heap) (argsAV Try.prog Try.f7.params.toList [.int .i64, .int .i64, .int .i64] d) [] (fun v H => some (v, H)) = some (.lit (.bool true), H') := by
  intro d hd
  exact ⟨lawProducts_sp, lawProducts_good, [], dblProducts_plain d hd⟩

theorem dblProducts_lifted (os : Os) (started : os.Started) (H : Type) (enc : TypeId × Value → H) :
    ReturnsInHanded {} Try.checked os 7 .any (Rows.dblProductsSpec.pre6 enc Try.prog Try.f7 [] false) (Rows.dblProductsSpec.post enc Try.prog Try.f7 false true false false) :=
  law_lifted (C := Try.checked) (fn := Try.f7) (code := bodyOf Try.f7) (tb := 4) (B := reachBytes) (by kernel_rfl) started (by kernel_rfl) Try.func7 (body_of rfl) (by kernel_rfl)
    (ChangeSpec.witness6 (enc := enc) (C := Try.checked) false ⟨#[], #[.int .i64 0, .int .i64 0, .int .i64 0], []⟩ 8 (by kernel_rfl) (by kernel_rfl) (by kernel_rfl) (by kernel_rfl))
    (by kernel_rfl) (by kernel_rfl) (by kernel_rfl) (shs := [.int .i64, .int .i64, .int .i64]) (by kernel_rfl) (by kernel_rfl) (by kernel_rfl) rfl
    (fun ds hd => match ds, hd with | [_, _, _], _ => rfl) (meas_said Try.prog H) dblProducts_run

theorem dblProducts_holds : Rows.DblProductsSaid :=
  OpenClaim.holds_of_wide 7 Try.f7 rfl rfl rfl rfl rfl rfl rfl ⟨rfl, rfl, rfl, rfl, rfl⟩ rfl rfl rfl rfl rfl (by kernel_rfl) Try.func7 (by kernel_rfl)
    (of_decide_eq_true (by kernel_rfl)) (by unfold Func.isWrapper; rw [if_neg (by decide +kernel)]; exact ⟨rfl, rfl⟩)
    (fun os started H enc _ => dblProducts_lifted os started H enc)

#print axioms dblProducts_holds
end Go.Proofs.Ytnopacpjimllhaa
