/- PureBack: for every input the law answers true and leaves its arguments as they were. -/
import Derived.Test.YtbcijnfednjohaaPuXU
import Derived.Test.YtbcijnfednjohaaPuPi
import Derived.Test.YtbcijnfednjohaaRows
import Derived.Test.YtbcijnfednjohaaTxS
namespace Go.Proofs.Ytbcijnfednjohaa
open Go Go.TX Go.Proofs Go.Proofs.Dbl
set_option maxRecDepth 100000
set_option maxHeartbeats 0
set_option linter.unusedVariables false
set_option linter.unusedSimpArgs false

theorem fold4 {r : List Int} {a b c d : Int} : r ++ [a, b, c, d] = (r ++ [a, b]) ++ [c, d] := by simp
theorem fold3 {r : List Int} {a b c d : Int} : r ++ [a, b, c, d] = (r ++ [a]) ++ [b, c, d] := by simp
theorem fold1 {r : List Int} {a b c d : Int} : r ++ [a, b, c, d] = (r ++ [a, b, c]) ++ [d] := by simp

section
variable {r : List Int} {a b c d : Int} (h : r.length + 4 ≤ 64)
include h

theorem b_20 : pure_Do 20 (r ++ [a, b, c, d]) = some (r ++ [a, b, d, c], 0) := by
  have := at2 20 (by decide) (by decide) _ ((dk_20 (r := r ++ [a, b]) (a := c) (b := d) (by simp; omega)).trans (congrArg some (fin_ok (by simp; omega))))
  rw [← fold4, ← fold4] at this
  exact this
theorem b_22 : pure_Do 22 (r ++ [a, b, c, d]) = some (r ++ [a, c, d, b], 0) := by
  have := at2 22 (by decide) (by decide) _ ((dk_22 (r := r ++ [a]) (a := b) (b := c) (c := d) (by simp; omega)).trans (congrArg some (fin_ok (by simp; omega))))
  rw [← fold3, ← fold3] at this
  exact this
theorem b_27 : pure_Do 27 (r ++ [a, b, c, d]) = some (r ++ [c, d, a, b], 0) :=
  at2 27 (by decide) (by decide) _ ((dk_27 (r := r) (a := a) (b := b) (c := c) (d := d) h).trans (congrArg some (fin_ok (by simp; omega))))
theorem b_45 : pure_Do 45 (r ++ [a, b, c, d]) = some (r ++ [a, b, c, W (0 - d)], 0) := by
  have := at2 45 (by decide) (by decide) _ ((dk_45 (r := r ++ [a, b, c]) (a := d) (by simp; omega)).trans (congrArg some (fin_ok (by simp; omega))))
  rw [← fold1, ← fold1] at this
  exact this
theorem b_41 : pure_Do 41 (r ++ [a, b, c, d]) = some (r ++ [a, b, c, W (d + 1)], 0) := by
  have := at2 41 (by decide) (by decide) _ ((dk_41 (r := r ++ [a, b, c]) (a := d) (by simp; omega)).trans (congrArg some (fin_ok (by simp; omega))))
  rw [← fold1, ← fold1] at this
  exact this
theorem b_42 : pure_Do 42 (r ++ [a, b, c, d]) = some (r ++ [a, b, c, W (d - 1)], 0) := by
  have := at2 42 (by decide) (by decide) _ ((dk_42 (r := r ++ [a, b, c]) (a := d) (by simp; omega)).trans (congrArg some (fin_ok (by simp; omega))))
  rw [← fold1, ← fold1] at this
  exact this
theorem b_72 : pure_Do 72 (r ++ [a, b, c, d]) = some (r ++ [a, b, c, W (d + 8)], 0) := by
  have := at2 72 (by decide) (by decide) _ ((dk_72 (r := r ++ [a, b, c]) (a := d) (by simp; omega)).trans (congrArg some (fin_ok (by simp; omega))))
  rw [← fold1, ← fold1] at this
  exact this
theorem b_52 (hd : Cell d) : pure_Do 52 (r ++ [a, b, c, d]) = some (r ++ [a, b, c, -1 - d], 0) := by
  have := at2 52 (by decide) (by decide) _ ((dk_52 (r := r ++ [a, b, c]) (a := d) (by simp; omega)).trans (congrArg some (fin_ok (by simp; omega))))
  rw [← fold1, ← fold1, xor_m1 hd] at this
  exact this
theorem b_70 (hc : Cell c) (hd : Cell d) : pure_Do 70 (r ++ [a, b, c, d]) = some (r ++ [a, b, (Pd (-S c d)).1, (Pd (-S c d)).2], 0) := by
  have := at2 70 (by decide) (by decide) _ ((dk_70 (r := r ++ [a, b]) (a := c) (b := d) (by simp; omega) hc hd).trans (congrArg some (fin_ok (by simp; omega))))
  rw [← fold4, ← fold4] at this
  exact this

theorem back_1 (ha : Cell a) (hb : Cell b) (hc : Cell c) (hd : Cell d) : pure_All [20, 20, 22, 22, 22, 45, 45, 52, 52, 70, 70, 27, 27] (r ++ [a, b, c, d]) = some (r ++ [a, b, c, d], 0) := by
  have hm : Cell (-1 - d) := by unfold Cell at *; omega
  have e1 : W (0 - W (0 - d)) = d := by unfold Cell at hd; unfold W; omega
  have e2 : -1 - (-1 - d) = d := by omega
  have e3 : (Pd (-S (Pd (-S c d)).1 (Pd (-S c d)).2)) = (c, d) := by
    rw [← Pd_S hc hd, Pd_eq]
    have := S_Pd (-S c d)
    rw [show S (Pd (-S c d)).1 (Pd (-S c d)).2 = _ from this]
    omega
  rw [All_eq _ (by simp), allF_ok (b_20 h), allF_ok (b_20 h), allF_ok (b_22 h), allF_ok (b_22 h), allF_ok (b_22 h), allF_ok (b_45 h), allF_ok (b_45 h), e1,
    allF_ok (b_52 h hd), allF_ok (b_52 h hm), e2, allF_ok (b_70 h hc hd), allF_ok (b_70 h (show Cell (Pd (-S c d)).1 from W_cell _) (show Cell (Pd (-S c d)).2 from W_cell _)), e3, allF_ok (b_27 h), allF_ok (b_27 h)]
  rfl

theorem back_2 (hd : Cell d) : pure_All [41, 42, 72, 42, 42, 42, 42, 42, 42, 42, 42] (r ++ [a, b, c, d]) = some (r ++ [a, b, c, d], 0) := by
  have p1 : ∀ x, W (W (x + 1) - 1) = W x := fun x => by unfold W; omega
  have p2 : ∀ x y, W (W x - y) = W (x - y) := fun x y => by unfold W; omega
  rw [All_eq _ (by simp), allF_ok (b_41 h), allF_ok (b_42 h), p1, W_of hd, allF_ok (b_72 h), allF_ok (b_42 h), p2, allF_ok (b_42 h), p2, allF_ok (b_42 h), p2, allF_ok (b_42 h), p2, allF_ok (b_42 h), p2,
    allF_ok (b_42 h), p2, allF_ok (b_42 h), p2, allF_ok (b_42 h), p2, show d + 8 - 1 - 1 - 1 - 1 - 1 - 1 - 1 - 1 = d from by omega, W_of hd]
  rfl
end

theorem last4 (l : List Int) (h : 4 ≤ l.length) : ∃ r a b c d, l = r ++ [a, b, c, d] ∧ r.length + 4 = l.length := by
  refine ⟨l.take (l.length - 4), l.getD (l.length - 4) 0, l.getD (l.length - 3) 0, l.getD (l.length - 2) 0, l.getD (l.length - 1) 0, ?_, by simp; omega⟩
  conv => lhs; rw [← List.take_append_drop (l.length - 4) l]
  congr 1
  apply List.ext_getElem
  · simp; omega
  · intro i h1 h2
    simp only [List.length_drop] at h1
    have hi : i = 0 ∨ i = 1 ∨ i = 2 ∨ i = 3 := by omega
    rcases hi with rfl | rfl | rfl | rfl
    · simp [List.getD_eq_getElem?_getD, show l.length - 4 < l.length from by omega]
    · simp only [List.getElem_drop, List.getElem_cons_succ, List.getElem_cons_zero, List.getD_eq_getElem?_getD]
      rw [List.getElem?_eq_getElem (by omega)]; simp only [Option.getD_some]; congr 1; omega
    · simp only [List.getElem_drop, List.getElem_cons_succ, List.getElem_cons_zero, List.getD_eq_getElem?_getD]
      rw [List.getElem?_eq_getElem (by omega)]; simp only [Option.getD_some]; congr 1; omega
    · simp only [List.getElem_drop, List.getElem_cons_succ, List.getElem_cons_zero, List.getD_eq_getElem?_getD]
      rw [List.getElem?_eq_getElem (by omega)]; simp only [Option.getD_some]; congr 1; omega

theorem back_val {l : List Int} (hl : ∀ x ∈ l, Cell x) (hB : l.length ≤ 9000000000000000000) : lawBackP l = some true := by
  unfold lawBackP lawBackP_t
  rw [awake_eq]
  simp only [outOf_some]
  unfold lawBackP_M1 lawBackP_M1_t
  by_cases h1 : (l.length : Int) > 64
  · rw [ct h1]; rfl
  · rw [cf h1]
    by_cases h2 : (l.length : Int) < 4
    · rw [ct h2]; rfl
    · rw [cf h2]
      simp only [outOf_some, sumOf_inr]
      obtain ⟨r, a, b, c, d, rfl, hr⟩ := last4 l (by omega)
      have hlen : r.length + 4 ≤ 64 := by omega
      rw [back_1 hlen (hl a (by simp)) (hl b (by simp)) (hl c (by simp)) (hl d (by simp)), back_2 hlen (hl d (by simp))]
      simp only [outOf_some, cond_true, beq_self_eq_true]
      rw [Same_refl _ (by simp; omega)]
      rfl

theorem pureBack_plain : ∀ d : DenL [.sl (.int .i64)], FitsL reachBytes [.sl (.int .i64)] d →
    lawBackP_sp (AV × Heap) (argsAV Try.prog Try.f5.params.toList [.sl (.int .i64)] d) [] (fun v H => some (v, H)) = some (.lit (.bool true), []) := by
  rintro ⟨l, _⟩ ⟨⟨hB, hl⟩, _⟩
  show outOf (lawBackP l) (fun v => some (AV.lit (.bool v), [])) = _
  rw [back_val (fun x hx => hl x hx) (Nat.le_trans hB (by decide))]
  rfl

theorem pureBack_run : ∀ d : DenL [.sl (.int .i64)], FitsL reachBytes [.sl (.int .i64)] d →
    ∃ sp, TX.Good Try.prog 5 sp ∧ ∃ H', sp (AV × Heap) (argsAV Try.prog Try.f5.params.toList [.sl (.int .i64)] d) [] (fun v H => some (v, H)) = some (.lit (.bool true), H') := by
  intro d hd
  exact ⟨lawBackP_sp, lawBackP_good, [], pureBack_plain d hd⟩

theorem pureBack_lifted (os : Os) (started : os.Started) (H : Type) (enc : TypeId × Value → H) :
    ReturnsInHanded {} Try.checked os 5 .any (Rows.pureBackSpec.pre6 enc Try.prog Try.f5 [] false) (Rows.pureBackSpec.post enc Try.prog Try.f5 false true false false) :=
  law_lifted (C := Try.checked) (fn := Try.f5) (code := bodyOf Try.f5) (tb := 4) (B := reachBytes) (by kernel_rfl) started (by kernel_rfl) Try.func5 (body_of rfl) (by kernel_rfl)
    (ChangeSpec.witness6 (enc := enc) (C := Try.checked) false ⟨#[], #[.slice none 0 0], []⟩ 8 (by kernel_rfl) (by kernel_rfl) (by kernel_rfl) (by kernel_rfl))
    (by kernel_rfl) (by kernel_rfl) (by kernel_rfl) (shs := [.sl (.int .i64)]) (by kernel_rfl) (by kernel_rfl) (by kernel_rfl) rfl
    (fun ds hd => match ds, hd with | [_], _ => rfl) (meas_said Try.prog H) pureBack_run

theorem pureBack_holds : Rows.PureBackSaid :=
  OpenClaim.holds_of_wide 5 Try.f5 rfl rfl rfl rfl rfl rfl rfl ⟨rfl, rfl, rfl, rfl, rfl⟩ rfl rfl rfl rfl rfl (by kernel_rfl) Try.func5 (by kernel_rfl)
    (of_decide_eq_true (by kernel_rfl)) (by unfold Func.isWrapper; rw [if_neg (by decide +kernel)]; exact ⟨rfl, rfl⟩)
    (fun os started H enc _ => pureBack_lifted os started H enc)

#print axioms pureBack_holds
end Go.Proofs.Ytbcijnfednjohaa
