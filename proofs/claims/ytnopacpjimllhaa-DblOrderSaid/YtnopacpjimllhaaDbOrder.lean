/- DblOrder: for every input the law answers true and leaves its arguments as they were. -/
import Derived.Test.YtnopacpjimllhaaDbXO
import Derived.Test.YtnopacpjimllhaaDbPa
import Derived.Test.YtnopacpjimllhaaRows
import Derived.Test.YtnopacpjimllhaaTxS
namespace Go.Proofs.Ytnopacpjimllhaa
open Go Go.TX Go.Proofs Go.Proofs.Dbl
set_option maxRecDepth 100000
set_option maxHeartbeats 0
set_option linter.unusedVariables false

def cmp3 (x y : Int) : Int := if x < y then -1 else if x > y then 1 else 0

theorem Cmp3 {a b c d : Int} (ha : Cell a) (hb : Cell b) (hc : Cell c) (hd : Cell d) : dbl_Cmp a b c d = some (cmp3 (S a b) (S c d)) := Cmp_eq ha hb hc hd

theorem cmp3_neg (x y : Int) : cmp3 x y = IntKind.wrap .i64 (0 - cmp3 y x) := by
  rw [wi]; unfold cmp3 W
  rcases Int.lt_trichotomy x y with h | h | h
  · rw [if_pos h, if_neg (by omega), if_pos (by omega)]; decide
  · subst h; simp
  · rw [if_neg (by omega), if_pos (by omega), if_pos (by omega)]; decide

theorem cmp3_cases (x y : Int) : (cmp3 x y = -1 ∧ x < y) ∨ (cmp3 x y = 0 ∧ x = y) ∨ (cmp3 x y = 1 ∧ x > y) := by
  unfold cmp3
  rcases Int.lt_trichotomy x y with h | h | h
  · exact .inl ⟨if_pos h, h⟩
  · exact .inr (.inl ⟨by rw [if_neg (by omega), if_neg (by omega)], h⟩)
  · exact .inr (.inr ⟨by rw [if_neg (by omega), if_pos (by omega)], h⟩)
theorem cmp3_zero (x y : Int) : cmp3 x y = 0 ↔ x = y := by
  rcases cmp3_cases x y with ⟨e, h⟩ | ⟨e, h⟩ | ⟨e, h⟩ <;> rw [e] <;> omega
theorem cmp3_le (x y : Int) : cmp3 x y ≤ 0 ↔ x ≤ y := by
  rcases cmp3_cases x y with ⟨e, h⟩ | ⟨e, h⟩ | ⟨e, h⟩ <;> rw [e] <;> omega
theorem cmp3_lt (x y : Int) : cmp3 x y < 0 ↔ x < y := by
  rcases cmp3_cases x y with ⟨e, h⟩ | ⟨e, h⟩ | ⟨e, h⟩ <;> rw [e] <;> omega
theorem cmp3_gt (x y : Int) : cmp3 x y > 0 ↔ x > y := by
  rcases cmp3_cases x y with ⟨e, h⟩ | ⟨e, h⟩ | ⟨e, h⟩ <;> rw [e] <;> omega

theorem S_eq {a b c d : Int} (ha : Cell a) (hb : Cell b) (hc : Cell c) (hd : Cell d) : S a b = S c d ↔ a = c ∧ b = d := by
  unfold Cell at *; unfold S; omega

theorem order_M1 {a0 a1 b0 b1 c0 c1 : Int} (ha0 : Cell a0) (ha1 : Cell a1) (hb0 : Cell b0) (hb1 : Cell b1) (hc0 : Cell c0) (hc1 : Cell c1) :
    lawOrder_M1 (cmp3 (S a0 a1) (S b0 b1)) a0 a1 b0 b1 c0 c1 = some (.inr ()) := by
  unfold lawOrder_M1 lawOrder_M1_t
  rw [Cmp3 hb0 hb1 ha0 ha1]
  simp only [outOf_some]
  rw [← cmp3_neg, bne_self_eq_false, cond_false]
  have e : (cmp3 (S a0 a1) (S b0 b1) == 0) = (a0 == b0 && (a1 == b1 && true)) := by
    rw [Bool.eq_iff_iff]
    simp only [beq_iff_eq, Bool.and_true, Bool.and_eq_true, cmp3_zero, S_eq ha0 ha1 hb0 hb1]
  rw [e]
  by_cases h1 : S a0 a1 ≤ S b0 b1
  · rw [decide_eq_true ((cmp3_le _ _).2 h1), Cmp3 hb0 hb1 hc0 hc1, Cmp3 ha0 ha1 hc0 hc1]
    simp only [beq_self_eq_true, Bool.not_true, cond_false, cond_true, outOf_some]
    by_cases h2 : S b0 b1 ≤ S c0 c1
    · rw [decide_eq_true ((cmp3_le _ _).2 h2), decide_eq_false (fun h => by have := (cmp3_gt _ _).1 h; omega)]
      rfl
    · rw [decide_eq_false (fun h => h2 ((cmp3_le _ _).1 h))]; rfl
  · rw [decide_eq_false (fun h => h1 ((cmp3_le _ _).1 h))]
    simp only [beq_self_eq_true, Bool.not_true, cond_false]

theorem order_val {a0 a1 b0 b1 c0 c1 n m : Int} (ha0 : Cell a0) (ha1 : Cell a1) (hb0 : Cell b0) (hb1 : Cell b1) (hc0 : Cell c0) (hc1 : Cell c1) (hn : Cell n) (hm : Cell m) :
    lawOrder a0 a1 b0 b1 c0 c1 n m = some true := by
  unfold lawOrder lawOrder_t
  rw [Cmp3 ha0 ha1 hb0 hb1]
  simp only [outOf_some, order_M1 ha0 ha1 hb0 hb1 hc0 hc1, sumOf_inr, Of_eq hn, Of_eq hm]
  have z : Cell 0 := by unfold Cell; omega
  rw [show (Pd n).fst = n from W_of hn, show (Pd m).fst = m from W_of hm, Cmp3 hn (show Cell (Pd n).snd from W_cell _) hm (show Cell (Pd m).snd from W_cell _), Cmp3 ha0 ha1 z z]
  simp only [outOf_some, cmp3_lt, cmp3_gt]
  have e : ∀ x, Cell x → S x (Pd x).snd = x := fun x hx => by unfold Cell at hx; unfold S Pd W; simp only; omega
  rw [e n hn, e m hm, beq_self_eq_true, beq_self_eq_true]
  simp only [cond_true]
  congr 1
  rw [beq_iff_eq]
  congr 1
  unfold Cell at *
  unfold S
  simp only [eq_iff_iff]
  omega

def dblS : Sh := .pair (.int .i64) (.int .i64)

theorem cellOf {x : Int} (h : -9223372036854775808 ≤ x ∧ x ≤ 9223372036854775807) : Cell x := h

theorem dblOrder_plain : ∀ d : DenL [dblS, dblS, dblS, .int .i64, .int .i64], FitsL reachBytes [dblS, dblS, dblS, .int .i64, .int .i64] d →
    lawOrder_sp (AV × Heap) (argsAV Try.prog Try.f5.params.toList [dblS, dblS, dblS, .int .i64, .int .i64] d) [] (fun v H => some (v, H)) = some (.lit (.bool true), []) := by
  rintro ⟨⟨a0, a1⟩, ⟨b0, b1⟩, ⟨c0, c1⟩, n, m, _⟩ ⟨⟨ha0, ha1⟩, ⟨hb0, hb1⟩, ⟨hc0, hc1⟩, hn, hm, _⟩
  show outOf (lawOrder a0 a1 b0 b1 c0 c1 n m) (fun v => some (AV.lit (.bool v), [])) = _
  rw [order_val ha0 ha1 hb0 hb1 hc0 hc1 hn hm]
  rfl

theorem dblOrder_run : ∀ d : DenL [dblS, dblS, dblS, .int .i64, .int .i64], FitsL reachBytes [dblS, dblS, dblS, .int .i64, .int .i64] d →
    ∃ sp, TX.Good Try.prog 5 sp ∧ ∃ H', sp (AV × Heap) (argsAV Try.prog Try.f5.params.toList [dblS, dblS, dblS, .int .i64, .int .i64] d) [] (fun v H => some (v, H)) = some (.lit (.bool true), H') := by
  intro d hd
  exact ⟨lawOrder_sp, lawOrder_good, [], dblOrder_plain d hd⟩

theorem dblOrder_lifted (os : Os) (started : os.Started) (H : Type) (enc : TypeId × Value → H) :
    ReturnsInHanded {} Try.checked os 5 .any (Rows.dblOrderSpec.pre6 enc Try.prog Try.f5 [] false) (Rows.dblOrderSpec.post enc Try.prog Try.f5 false true false false) :=
  law_lifted (C := Try.checked) (fn := Try.f5) (code := bodyOf Try.f5) (tb := 4) (B := reachBytes) (by kernel_rfl) started (by kernel_rfl) Try.func5 (body_of rfl) (by kernel_rfl)
    (ChangeSpec.witness6 (enc := enc) (C := Try.checked) false ⟨#[], #[.agg #[.int .i64 0, .int .i64 0], .agg #[.int .i64 0, .int .i64 0], .agg #[.int .i64 0, .int .i64 0], .int .i64 0, .int .i64 0], []⟩ 8 (by kernel_rfl) (by kernel_rfl) (by kernel_rfl) (by kernel_rfl))
    (by kernel_rfl) (by kernel_rfl) (by kernel_rfl) (shs := [dblS, dblS, dblS, .int .i64, .int .i64]) (by kernel_rfl) (by kernel_rfl) (by kernel_rfl) rfl
    (fun ds hd => match ds, hd with | [_, _, _, _, _], _ => rfl) (meas_said Try.prog H) dblOrder_run

theorem dblOrder_holds : Rows.DblOrderSaid :=
  OpenClaim.holds_of_wide 5 Try.f5 rfl rfl rfl rfl rfl rfl rfl ⟨rfl, rfl, rfl, rfl, rfl⟩ rfl rfl rfl rfl rfl (by kernel_rfl) Try.func5 (by kernel_rfl)
    (of_decide_eq_true (by kernel_rfl)) (by unfold Func.isWrapper; rw [if_neg (by decide +kernel)]; exact ⟨rfl, rfl⟩)
    (fun os started H enc _ => dblOrder_lifted os started H enc)

#print axioms dblOrder_holds
end Go.Proofs.Ytnopacpjimllhaa
