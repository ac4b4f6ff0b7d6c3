/- PureCounts: for every input the law answers true and leaves its arguments as they were. -/
import Derived.Test.YtbcijnfednjohaaPuXT
import Derived.Test.YtbcijnfednjohaaPuPn
import Derived.Test.YtbcijnfednjohaaRows
import Derived.Test.YtbcijnfednjohaaTxS
namespace Go.Proofs.Ytbcijnfednjohaa
open Go Go.TX Go.Proofs Go.Proofs.Dbl
set_option maxRecDepth 100000
set_option maxHeartbeats 0
set_option linter.unusedVariables false
set_option linter.unusedSimpArgs false

theorem counts_M1 {k : Nat} {d y : List Int} (h1 : 18 ≤ k) (h2 : k ≤ 74) (hL : LeftOf k d y) : lawCounts_M1 (k : Int) d y (need k : Int) = some (.inr ()) := by
  have a1 := hL.need_le
  have a2 := hL.d_le
  have a3 := hL.y_le
  unfold lawCounts_M1 lawCounts_M1_t
  rw [group_eq h1 h2]
  simp only [outOf_some, bne_self_eq_false, cond_false]
  rw [cf (by omega), if_neg (by omega), cf (by omega)]

theorem counts_M3 {k : Nat} {d y : List Int} (hL : LeftOf k d y) : lawCounts_M3 (k : Int) d true y = some (if k = 30 ∨ k = 31 then .inl true else .inr ()) := by
  have a1 := hL.need_le
  have a2 := hL.d_le
  have a3 := hL.y_le
  unfold lawCounts_M3 lawCounts_M3_t lawCounts_M2 lawCounts_M2_t law_yes law_yes_t
  by_cases h31 : k = 31
  · subst h31
    have a4 := hL.roll rfl
    have e : W (W ((d.length : Int) - 1) + 0) = (y.length : Int) := by unfold W; omega
    rw [show (((31 : Nat) : Int) == 31) = true from rfl, show (((31 : Nat) : Int) == 30) = false from rfl, if_pos (by omega)]
    simp only [cond_true, cond_false, outOf_some, wi, e, beq_self_eq_true]
  · by_cases h30 : k = 30
    · subst h30
      have a4 := hL.pick rfl
      have e31 : need 30 = 1 := by decide
      have e : W (W ((d.length : Int) - 1) + 1) = (y.length : Int) := by unfold W; omega
      rw [show (((30 : Nat) : Int) == 31) = false from rfl, show (((30 : Nat) : Int) == 30) = true from rfl, if_pos (by omega)]
      simp only [cond_true, cond_false, outOf_some, wi, e, beq_self_eq_true]
    · rw [beq_eq_false_iff_ne.2 (show (k : Int) ≠ 31 from by omega), beq_eq_false_iff_ne.2 (show (k : Int) ≠ 30 from by omega), if_neg (by omega)]
      rfl

theorem counts_throw {o : Int} {d : List Int} {e g : Int} (h1 : ¬ (d.length : Int) > 100) (hy : pure_Do o d = some (d, e)) (he : e ≠ 0) (hg : op_Group o = some g) (hge : (g != (1 : Int)) = (e == (-21 : Int))) : lawCounts o d = some true := by
  unfold lawCounts lawCounts_t
  rw [awake_eq, hy, hg]
  simp only [outOf_some]
  rw [cf h1, show (e != 0) = true from by simpa using he, Same_refl _ (by omega)]
  simp only [outOf_some, cond_true]
  rw [hge, beq_self_eq_true]

theorem counts_far {o : Int} {d : List Int} (h1 : (d.length : Int) > 100) : lawCounts o d = some true := by
  unfold lawCounts lawCounts_t
  rw [awake_eq]
  simp only [outOf_some]
  rw [ct h1]

theorem counts_end {v : Bool} {d y : List Int} {n l : Nat} (hn : n ≤ d.length) (hd : d.length ≤ 64) (hy : y.length ≤ 64) (b1 : d.length ≤ y.length + n) (b2 : y.take (d.length - n) = d.take (d.length - n)) (b3 : v = true → y.length + n = d.length + l) :
    (cond (!v) (cond (decide ((↑(List.length y) : Int) ≥ IntKind.wrap IntKind.i64 ((↑(List.length d) : Int) - (n : Int)))) (cond (decide ((0 : Int) ≤ (0 : Int) ∧ (0 : Int) ≤ IntKind.wrap IntKind.i64 ((↑(List.length d) : Int) - (n : Int)) ∧ IntKind.wrap IntKind.i64 ((↑(List.length d) : Int) - (n : Int)) ≤ (↑(List.length y) : Int))) (cond (decide ((0 : Int) ≤ (0 : Int) ∧ (0 : Int) ≤ IntKind.wrap IntKind.i64 ((↑(List.length d) : Int) - (n : Int)) ∧ IntKind.wrap IntKind.i64 ((↑(List.length d) : Int) - (n : Int)) ≤ (↑(List.length d) : Int))) (outOf (ref_Same (List.take (Int.toNat (IntKind.wrap IntKind.i64 ((↑(List.length d) : Int) - (n : Int))) - (0 : Nat)) (List.drop (0 : Nat) y)) (List.take (Int.toNat (IntKind.wrap IntKind.i64 ((↑(List.length d) : Int) - (n : Int))) - (0 : Nat)) (List.drop (0 : Nat) d))) fun (x64 : Bool) => some (x64)) (none)) (none)) (some (false))) (cond ((↑(List.length y) : Int) == IntKind.wrap IntKind.i64 (IntKind.wrap IntKind.i64 ((↑(List.length d) : Int) - (n : Int)) + (l : Int))) (cond (decide ((↑(List.length y) : Int) ≥ IntKind.wrap IntKind.i64 ((↑(List.length d) : Int) - (n : Int)))) (cond (decide ((0 : Int) ≤ (0 : Int) ∧ (0 : Int) ≤ IntKind.wrap IntKind.i64 ((↑(List.length d) : Int) - (n : Int)) ∧ IntKind.wrap IntKind.i64 ((↑(List.length d) : Int) - (n : Int)) ≤ (↑(List.length y) : Int))) (cond (decide ((0 : Int) ≤ (0 : Int) ∧ (0 : Int) ≤ IntKind.wrap IntKind.i64 ((↑(List.length d) : Int) - (n : Int)) ∧ IntKind.wrap IntKind.i64 ((↑(List.length d) : Int) - (n : Int)) ≤ (↑(List.length d) : Int))) (outOf (ref_Same (List.take (Int.toNat (IntKind.wrap IntKind.i64 ((↑(List.length d) : Int) - (n : Int))) - (0 : Nat)) (List.drop (0 : Nat) y)) (List.take (Int.toNat (IntKind.wrap IntKind.i64 ((↑(List.length d) : Int) - (n : Int))) - (0 : Nat)) (List.drop (0 : Nat) d))) fun (x65 : Bool) => some (x65)) (none)) (none)) (some (false))) (some (false)))) = some true := by
  have e : W ((d.length : Int) - (n : Int)) = ((d.length - n : Nat) : Int) := by unfold W; omega
  simp only [wi, e, Int.toNat_natCast, Nat.sub_zero, List.drop_zero, b2]
  rw [Same_refl _ (by simp; omega), ct (by omega), ct (by omega), ct (by omega)]
  simp only [outOf_some]
  cases v with
  | false => rfl
  | true =>
    have b4 := b3 rfl
    have e2 : W (((d.length - n : Nat) : Int) + (l : Int)) = (y.length : Int) := by unfold W; omega
    rw [e2, beq_self_eq_true]
    rfl

theorem counts_left {k : Nat} {d y : List Int} (k1 : 18 ≤ k) (k2 : k ≤ 74) (h1 : ¬ (d.length : Int) > 100) (hy : pure_Do (k : Int) d = some (y, 0)) (hL : LeftOf k d y) : lawCounts (k : Int) d = some true := by
  unfold lawCounts lawCounts_t
  rw [awake_eq, hy, needs_eq k1 k2, leaves_eq k1 k2]
  simp only [outOf_some]
  rw [cf h1, counts_M1 k1 k2 hL, counts_M3 hL]
  simp only [outOf_some, sumOf_inr, bne_self_eq_false, cond_false]
  by_cases hs : k = 30 ∨ k = 31
  · rw [if_pos hs]; rfl
  · rw [if_neg hs]
    obtain ⟨b1, b2⟩ := hL.keeps (by omega) (by omega)
    simp only [sumOf_inr, cond_true]
    exact counts_end hL.need_le hL.d_le hL.y_le b1 b2 fun hv => hL.leaves (by omega) (by omega) (of_decide_eq_true hv)

theorem counts_val {o : Int} {d : List Int} (hd : AllC d) : lawCounts o d = some true := by
  by_cases h1 : (d.length : Int) > 100
  · exact counts_far h1
  · by_cases g : 18 ≤ o ∧ o ≤ 74
    · obtain ⟨k, rfl⟩ : ∃ k : Nat, o = (k : Int) := ⟨o.toNat, by omega⟩
      have k1 : 18 ≤ k := by omega
      have k2 : k ≤ 74 := by omega
      obtain ⟨y, e, hy, hc⟩ := counted k1 k2 hd
      rw [← Do_at k1 k2] at hy
      rcases hc with ⟨he, rfl, h21⟩ | ⟨rfl, hL⟩
      · exact counts_throw h1 hy he (group_eq k1 k2) (by rw [beq_eq_false_iff_ne.2 h21]; rfl)
      · exact counts_left k1 k2 h1 hy hL
    · obtain ⟨w, hw, hne⟩ := group_out g
      have hb1 : (w != 1) = true := by simpa using hne
      have h2 : pure_Do o d = some (d, -21) := by
        unfold pure_Do
        rw [if_neg g, hw]
        show cond (w != 1) _ _ = _
        rw [hb1]; rfl
      exact counts_throw h1 h2 (by decide) hw (by rw [hb1]; rfl)

theorem pureCounts_plain : ∀ d : DenL [.int .i64, .sl (.int .i64)], FitsL reachBytes [.int .i64, .sl (.int .i64)] d →
    lawCounts_sp (AV × Heap) (argsAV Try.prog Try.f4.params.toList [.int .i64, .sl (.int .i64)] d) [] (fun v H => some (v, H)) = some (.lit (.bool true), []) := by
  rintro ⟨o, d, _⟩ ⟨ho, ⟨hB, hd⟩, _⟩
  show outOf (lawCounts o d) (fun v => some (AV.lit (.bool v), [])) = _
  rw [counts_val (AllC_of fun x hx => hd x hx)]
  rfl

theorem pureCounts_run : ∀ d : DenL [.int .i64, .sl (.int .i64)], FitsL reachBytes [.int .i64, .sl (.int .i64)] d →
    ∃ sp, TX.Good Try.prog 4 sp ∧ ∃ H', sp (AV × Heap) (argsAV Try.prog Try.f4.params.toList [.int .i64, .sl (.int .i64)] d) [] (fun v H => some (v, H)) = some (.lit (.bool true), H') := by
  intro d hd
  exact ⟨lawCounts_sp, lawCounts_good, [], pureCounts_plain d hd⟩

theorem pureCounts_lifted (os : Os) (started : os.Started) (H : Type) (enc : TypeId × Value → H) :
    ReturnsInHanded {} Try.checked os 4 .any (Rows.pureCountsSpec.pre6 enc Try.prog Try.f4 [] false) (Rows.pureCountsSpec.post enc Try.prog Try.f4 false true false false) :=
  law_lifted (C := Try.checked) (fn := Try.f4) (code := bodyOf Try.f4) (tb := 4) (B := reachBytes) (by kernel_rfl) started (by kernel_rfl) Try.func4 (body_of rfl) (by kernel_rfl)
    (ChangeSpec.witness6 (enc := enc) (C := Try.checked) false ⟨#[], #[.int .i64 0, .slice none 0 0], []⟩ 8 (by kernel_rfl) (by kernel_rfl) (by kernel_rfl) (by kernel_rfl))
    (by kernel_rfl) (by kernel_rfl) (by kernel_rfl) (shs := [.int .i64, .sl (.int .i64)]) (by kernel_rfl) (by kernel_rfl) (by kernel_rfl) rfl
    (fun ds hd => match ds, hd with | [_, _], _ => rfl) (meas_said Try.prog H) pureCounts_run

theorem pureCounts_holds : Rows.PureCountsSaid :=
  OpenClaim.holds_of_wide 4 Try.f4 rfl rfl rfl rfl rfl rfl rfl ⟨rfl, rfl, rfl, rfl, rfl⟩ rfl rfl rfl rfl rfl (by kernel_rfl) Try.func4 (by kernel_rfl)
    (of_decide_eq_true (by kernel_rfl)) (by unfold Func.isWrapper; rw [if_neg (by decide +kernel)]; exact ⟨rfl, rfl⟩)
    (fun os started H enc _ => pureCounts_lifted os started H enc)

#print axioms pureCounts_holds
end Go.Proofs.Ytbcijnfednjohaa
