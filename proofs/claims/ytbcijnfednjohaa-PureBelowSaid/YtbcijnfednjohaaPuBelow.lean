/- PureBelow: for every input the law answers true and leaves its arguments as they were. -/
import Derived.Test.YtbcijnfednjohaaPuXW
import Derived.Test.YtbcijnfednjohaaPuPm
import Derived.Test.YtbcijnfednjohaaRows
import Derived.Test.YtbcijnfednjohaaTxS
namespace Go.Proofs.Ytbcijnfednjohaa
open Go Go.TX Go.Proofs Go.Proofs.Dbl
set_option maxRecDepth 100000
set_option maxHeartbeats 0
set_option linter.unusedVariables false
set_option linter.unusedSimpArgs false

theorem needs_eq {k : Nat} (h1 : 18 ≤ k) (h2 : k ≤ 74) : op_Needs (k : Int) = some (need k : Int) := by
  have := List.all_eq_true.1 need_in (k - 18) (List.mem_range.2 (by omega))
  rw [show k - 18 + 18 = k from by omega] at this
  cases hg : op_Needs (k : Int) with
  | none => rw [hg] at this; cases this
  | some g => rw [hg] at this; rw [beq_iff_eq.1 this]

theorem needs_some (o : Int) : ∃ v, op_Needs o = some v := by
  by_cases hf : o < 0 ∨ 111 ≤ o
  · have h1 : op_in o = some false := by
      unfold op_in op_in_t
      by_cases h0 : o ≥ 0
      · rw [ct h0, decide_eq_false (by omega)]
      · rw [cf h0]
    unfold op_Needs op_Needs_t op_of op_of_t
    rw [h1]; exact ⟨_, rfl⟩
  · have h : (List.range 111).all (fun n => (op_Needs (n : Int)).isSome) = true := by kernel_rfl
    have := List.all_eq_true.1 h o.toNat (List.mem_range.2 (by omega))
    rw [Int.toNat_of_nonneg (by omega)] at this
    exact Option.isSome_iff_exists.1 this

theorem tells_tab6 : ∀ k : Nat, 18 ≤ k → k ≤ 74 → (k < 29 ∨ 32 < k) → ∃ m, m ≤ 6 ∧ Tells k (need k) m
  | 18, _, _, _ => ⟨2, by decide, tl_18⟩
  | 19, _, _, _ => ⟨0, by decide, tl_19⟩
  | 20, _, _, _ => ⟨2, by decide, tl_20⟩
  | 21, _, _, _ => ⟨3, by decide, tl_21⟩
  | 22, _, _, _ => ⟨3, by decide, tl_22⟩
  | 23, _, _, _ => ⟨1, by decide, tl_23⟩
  | 24, _, _, _ => ⟨3, by decide, tl_24⟩
  | 25, _, _, _ => ⟨4, by decide, tl_25⟩
  | 26, _, _, _ => ⟨0, by decide, tl_26⟩
  | 27, _, _, _ => ⟨4, by decide, tl_27⟩
  | 28, _, _, _ => ⟨6, by decide, tl_28⟩
  | 29, _, _, h => by omega
  | 30, _, _, h => by omega
  | 31, _, _, h => by omega
  | 32, _, _, h => by omega
  | 33, _, _, _ => ⟨1, by decide, tl_33⟩
  | 34, _, _, _ => ⟨1, by decide, tl_34⟩
  | 35, _, _, _ => ⟨1, by decide, tl_35⟩
  | 36, _, _, _ => ⟨1, by decide, tl_36⟩
  | 37, _, _, _ => ⟨1, by decide, tl_37⟩
  | 38, _, _, _ => ⟨2, by decide, tl_38⟩
  | 39, _, _, _ => ⟨1, by decide, tl_39⟩
  | 40, _, _, _ => ⟨2, by decide, tl_40⟩
  | 41, _, _, _ => ⟨1, by decide, tl_41⟩
  | 42, _, _, _ => ⟨1, by decide, tl_42⟩
  | 43, _, _, _ => ⟨1, by decide, tl_43⟩
  | 44, _, _, _ => ⟨1, by decide, tl_44⟩
  | 45, _, _, _ => ⟨1, by decide, tl_45⟩
  | 46, _, _, _ => ⟨1, by decide, tl_46⟩
  | 47, _, _, _ => ⟨1, by decide, tl_47⟩
  | 48, _, _, _ => ⟨1, by decide, tl_48⟩
  | 49, _, _, _ => ⟨1, by decide, tl_49⟩
  | 50, _, _, _ => ⟨1, by decide, tl_50⟩
  | 51, _, _, _ => ⟨1, by decide, tl_51⟩
  | 52, _, _, _ => ⟨1, by decide, tl_52⟩
  | 53, _, _, _ => ⟨1, by decide, tl_53⟩
  | 54, _, _, _ => ⟨1, by decide, tl_54⟩
  | 55, _, _, _ => ⟨1, by decide, tl_55⟩
  | 56, _, _, _ => ⟨1, by decide, tl_56⟩
  | 57, _, _, _ => ⟨1, by decide, tl_57⟩
  | 58, _, _, _ => ⟨1, by decide, tl_58⟩
  | 59, _, _, _ => ⟨1, by decide, tl_59⟩
  | 60, _, _, _ => ⟨1, by decide, tl_60⟩
  | 61, _, _, _ => ⟨1, by decide, tl_61⟩
  | 62, _, _, _ => ⟨1, by decide, tl_62⟩
  | 63, _, _, _ => ⟨2, by decide, tl_63⟩
  | 64, _, _, _ => ⟨2, by decide, tl_64⟩
  | 65, _, _, _ => ⟨2, by decide, tl_65⟩
  | 66, _, _, _ => ⟨2, by decide, tl_66⟩
  | 67, _, _, _ => ⟨2, by decide, tl_67⟩
  | 68, _, _, _ => ⟨2, by decide, tl_68⟩
  | 69, _, _, _ => ⟨2, by decide, tl_69⟩
  | 70, _, _, _ => ⟨2, by decide, tl_70⟩
  | 71, _, _, _ => ⟨1, by decide, tl_71⟩
  | 72, _, _, _ => ⟨1, by decide, tl_72⟩
  | 73, _, _, _ => ⟨1, by decide, tl_73⟩
  | 74, _, _, _ => ⟨1, by decide, tl_74⟩
  | 0, h, _, _ | 1, h, _, _ | 2, h, _, _ | 3, h, _, _ | 4, h, _, _ | 5, h, _, _ | 6, h, _, _ | 7, h, _, _ | 8, h, _, _ | 9, h, _, _ | 10, h, _, _ | 11, h, _, _ | 12, h, _, _ | 13, h, _, _ | 14, h, _, _ | 15, h, _, _ | 16, h, _, _ | 17, h, _, _ => by omega
  | n + 75, _, h, _ => by omega

/-- ?DUP, by the top cell alone. -/
theorem tl_29 (X : List Int) (hX : X.length = need 29) (hc : AllC X) : ∃ (Y : List Int) (e : Int), Y.length ≤ 6 ∧ ∀ r : List Int, r.length + need 29 ≤ 64 → Do_tab 29 (r ++ X) = some (fin r X Y e) := by
  have hn : need 29 = 1 := by decide
  rw [hn] at hX ⊢
  match X, hX, hc with
  | [a], _, _ =>
    refine ⟨if a = 0 then [a] else [a, a], 0, by split <;> simp, fun r hr => ?_⟩
    show Do_29 (r ++ [a]) = _
    unfold Do_29 Do_29_t
    rw [cf (by simp; omega), cf (by simp; omega), Pick_eq (by simp; omega) zero_cell, if_pos (by simp)]
    have hg : (r ++ [a]).getD ((r ++ [a]).length - 1 - (0 : Int).toNat) 0 = a := by
      simp [List.getD_eq_getElem?_getD]
    rw [hg]
    simp only [outOf_some]
    by_cases h0 : a = 0
    · rw [show (a == 0) = true from by simp [h0], if_pos h0]
      unfold fin
      rw [if_neg (by simp), if_neg (by simp; omega)]; rfl
    · rw [beq_eq_false_iff_ne.2 h0, if_neg h0, Push_eq (by simp; omega) (by simp)]
      unfold fin
      rw [if_neg (show ¬ ((0 : Int) ≠ 0) from by simp)]
      have l1 : (r ++ [a]).length + [a].length = r.length + 2 := by simp
      have l2 : r.length + [a, a].length = r.length + 2 := by simp
      rw [l1, l2]
      by_cases g : 64 < r.length + 2
      · rw [if_pos g, if_pos g]; rfl
      · rw [if_neg g, if_neg g, List.append_assoc]; rfl

theorem below_do {o : Int} {d b : List Int} (hd : AllC d) (hb : AllC b) (h : b.length + d.length ≤ 50) (h30 : o ≠ 30) (h31 : o ≠ 31) (h32 : o ≠ 32) {v : Int} (hv : op_Needs o = some v) (hn : v ≤ d.length) :
    ∃ y e, pure_Do o d = some (y, e) ∧ pure_Do o (b ++ d) = some (b ++ y, e) ∧ y.length ≤ 64 := by
  by_cases g : 18 ≤ o ∧ o ≤ 74
  · obtain ⟨k, rfl⟩ : ∃ k : Nat, o = (k : Int) := ⟨o.toNat, by omega⟩
    rw [needs_eq (by omega) (by omega)] at hv
    have hk : need k ≤ d.length := by cases hv; omega
    rw [Do_at (by omega) (by omega), Do_at (by omega) (by omega)]
    have key : ∃ m, (∀ X : List Int, X.length = need k → AllC X → ∃ (Y : List Int) (e : Int), Y.length ≤ 6 ∧ ∀ r : List Int, r.length + need k ≤ 64 → Do_tab k (r ++ X) = some (fin r X Y e)) ∧ m = 0 := by
      refine ⟨0, fun X hX hc => ?_, rfl⟩
      by_cases h29 : k = 29
      · subst h29
        exact tl_29 X hX hc
      · obtain ⟨m, hm6, ht⟩ := tells_tab6 k (by omega) (by omega) (by omega)
        obtain ⟨Y, e, _, hm, _, ht2⟩ := ht X hX hc
        exact ⟨Y, e, by omega, ht2⟩
    obtain ⟨_, key, _⟩ := key
    obtain ⟨r, x, rfl, hx, hr⟩ := split_at (d := d) (n := need k) hk
    obtain ⟨Y, e, hY, hY2⟩ := key x hx (AllC_append.1 hd).2
    rw [List.length_append] at h
    rw [hY2 r (by omega), ← List.append_assoc, hY2 (b ++ r) (by simp; omega)]
    unfold fin
    by_cases he : e = 0
    · subst he
      rw [if_neg (by simp), if_neg (by omega), if_neg (by simp), if_neg (by simp; omega)]
      exact ⟨_, _, rfl, by rw [List.append_assoc], by simp; omega⟩
    · rw [if_pos he, if_pos he]
      exact ⟨_, _, rfl, by rw [List.append_assoc], by simp; omega⟩
  · obtain ⟨w, hw, hne⟩ := group_out g
    unfold pure_Do
    rw [if_neg g, if_neg g, hw]
    have hb1 : (w != 1) = true := by simpa using hne
    refine ⟨d, -21, ?_, ?_, by omega⟩
    · show cond (w != 1) _ _ = _
      rw [hb1]; rfl
    · show cond (w != 1) _ _ = _
      rw [hb1]; rfl

theorem below_val {o : Int} {d b : List Int} (hB1 : d.length ≤ 4000000000000000000) (hB2 : b.length ≤ 4000000000000000000) (hd : AllC d) (hb : AllC b) : lawBelow o d b = some true := by
  unfold lawBelow lawBelow_t
  rw [awake_eq]
  simp only [outOf_some]
  unfold lawBelow_M1 lawBelow_M1_t
  rw [wi, show W ((d.length : Int) + (b.length : Int)) = (d.length : Int) + (b.length : Int) from W_of (by unfold Cell; omega)]
  by_cases h1 : (d.length : Int) + (b.length : Int) > 50
  · rw [ct h1]; rfl
  · rw [cf h1]
    by_cases h2 : (d.length : Int) > 50
    · rw [ct h2]; rfl
    · rw [cf h2]
      by_cases h32 : o = 32
      · rw [show (o == 32) = true from by simp [h32]]; rfl
      · by_cases h30 : o = 30
        · rw [beq_eq_false_iff_ne.2 h32, show (o == 30) = true from by simp [h30]]; rfl
        · by_cases h31 : o = 31
          · rw [beq_eq_false_iff_ne.2 h32, beq_eq_false_iff_ne.2 h30, show (o == 31) = true from by simp [h31]]; rfl
          · rw [beq_eq_false_iff_ne.2 h32, beq_eq_false_iff_ne.2 h30, beq_eq_false_iff_ne.2 h31]
            obtain ⟨v, hv⟩ := needs_some o
            rw [hv]
            simp only [cond_false, outOf_some]
            by_cases h3 : (d.length : Int) < v
            · rw [ct h3]; rfl
            · rw [cf h3]
              simp only [outOf_some, sumOf_inr]
              obtain ⟨y, e, g1, g2, g3⟩ := below_do hd hb (by omega) h30 h31 h32 hv (by omega)
              rw [g1]
              simp only [outOf_some]
              have e0 : ∀ x : List Int, List.take (b.length + x.length) (List.drop 0 (List.take b.length (List.drop 0 b) ++ x)) = b ++ x := fun x => by
                rw [List.drop_zero, List.drop_zero, List.take_length, List.take_of_length_le (by simp)]
              rw [ct (by omega), ct (by omega), e0, g2]
              simp only [outOf_some]
              rw [ct (by omega), ct (by omega), e0]
              simp only [cond_true, beq_self_eq_true]
              rw [Same_refl _ (by simp; omega)]
              rfl

theorem pureBelow_plain : ∀ d : DenL [.int .i64, .sl (.int .i64), .sl (.int .i64)], FitsL reachBytes [.int .i64, .sl (.int .i64), .sl (.int .i64)] d →
    lawBelow_sp (AV × Heap) (argsAV Try.prog Try.f3.params.toList [.int .i64, .sl (.int .i64), .sl (.int .i64)] d) [] (fun v H => some (v, H)) = some (.lit (.bool true), []) := by
  rintro ⟨o, d, b, _⟩ ⟨ho, ⟨hB, hd⟩, ⟨hB2, hb⟩, _⟩
  show outOf (lawBelow o d b) (fun v => some (AV.lit (.bool v), [])) = _
  rw [below_val (Nat.le_trans hB (by decide)) (Nat.le_trans hB2 (by decide)) (AllC_of fun x hx => hd x hx) (AllC_of fun x hx => hb x hx)]
  rfl

theorem pureBelow_run : ∀ d : DenL [.int .i64, .sl (.int .i64), .sl (.int .i64)], FitsL reachBytes [.int .i64, .sl (.int .i64), .sl (.int .i64)] d →
    ∃ sp, TX.Good Try.prog 3 sp ∧ ∃ H', sp (AV × Heap) (argsAV Try.prog Try.f3.params.toList [.int .i64, .sl (.int .i64), .sl (.int .i64)] d) [] (fun v H => some (v, H)) = some (.lit (.bool true), H') := by
  intro d hd
  exact ⟨lawBelow_sp, lawBelow_good, [], pureBelow_plain d hd⟩

theorem pureBelow_lifted (os : Os) (started : os.Started) (H : Type) (enc : TypeId × Value → H) :
    ReturnsInHanded {} Try.checked os 3 .any (Rows.pureBelowSpec.pre6 enc Try.prog Try.f3 [] false) (Rows.pureBelowSpec.post enc Try.prog Try.f3 false true false false) :=
  law_lifted (C := Try.checked) (fn := Try.f3) (code := bodyOf Try.f3) (tb := 4) (B := reachBytes) (by kernel_rfl) started (by kernel_rfl) Try.func3 (body_of rfl) (by kernel_rfl)
    (ChangeSpec.witness6 (enc := enc) (C := Try.checked) false ⟨#[], #[.int .i64 0, .slice none 0 0, .slice none 0 0], []⟩ 8 (by kernel_rfl) (by kernel_rfl) (by kernel_rfl) (by kernel_rfl))
    (by kernel_rfl) (by kernel_rfl) (by kernel_rfl) (shs := [.int .i64, .sl (.int .i64), .sl (.int .i64)]) (by kernel_rfl) (by kernel_rfl) (by kernel_rfl) rfl
    (fun ds hd => match ds, hd with | [_, _, _], _ => rfl) (meas_said Try.prog H) pureBelow_run

theorem pureBelow_holds : Rows.PureBelowSaid :=
  OpenClaim.holds_of_wide 3 Try.f3 rfl rfl rfl rfl rfl rfl rfl ⟨rfl, rfl, rfl, rfl, rfl⟩ rfl rfl rfl rfl rfl (by kernel_rfl) Try.func3 (by kernel_rfl)
    (of_decide_eq_true (by kernel_rfl)) (by unfold Func.isWrapper; rw [if_neg (by decide +kernel)]; exact ⟨rfl, rfl⟩)
    (fun os started H enc _ => pureBelow_lifted os started H enc)

#print axioms pureBelow_holds
end Go.Proofs.Ytbcijnfednjohaa
