/- DblBack: for every input the law answers true and leaves its arguments as they were. -/
import Derived.Test.YtnopacpjimllhaaDbXK
import Derived.Test.YtnopacpjimllhaaDbPe
import Derived.Test.YtnopacpjimllhaaRows
import Derived.Test.YtnopacpjimllhaaTxS
namespace Go.Proofs.Ytnopacpjimllhaa
open Go Go.TX Go.Proofs Go.Proofs.Dbl
set_option maxRecDepth 100000
set_option maxHeartbeats 0
set_option linter.unusedVariables false

theorem Pd_D {lo hi : Int} (h1 : Cell lo) (h2 : Cell hi) : Pd (D lo hi) = (lo, hi) := by
  rw [← Pd_S h1 h2, Pd_eq]
  unfold D S; omega

theorem same_pair {x : Int × Int} {a b : Int} (h : x = (a, b)) : (!(x.1 == a && (x.2 == b && true))) = false := by subst h; simp

theorem back_M1 {lo hi n : Int} (h1 : Cell lo) (h2 : Cell hi) (hn : Cell n) (x : Int × Int × Int)
    (hx : x = if n = 0 then (0, 0, -10) else if hi % 18446744073709551616 < n % 18446744073709551616 then (W (D lo hi % (n % 18446744073709551616)), W (D lo hi / (n % 18446744073709551616)), 0) else (0, 0, -11)) :
    lawBack_M1 n x.1 x.2.1 x.2.2 lo hi = some (.inr ()) := by
  unfold lawBack_M1 lawBack_M1_t
  by_cases h0 : n = 0
  · rw [if_pos h0] at hx; subst hx; rfl
  · rw [if_neg h0] at hx
    by_cases g : hi % 18446744073709551616 < n % 18446744073709551616
    · rw [if_pos g] at hx
      subst hx
      have hB : 0 < n % 18446744073709551616 := by unfold Cell at hn; omega
      obtain ⟨q0, q1⟩ := UMod_q (lo := lo) hB g
      have r0 := Int.emod_nonneg (D lo hi) (b := n % 18446744073709551616) (by omega)
      have r1 := Int.emod_lt_of_pos (D lo hi) hB
      have e := Int.mul_ediv_add_emod (D lo hi) (n % 18446744073709551616)
      simp only [UMul_eq, mod_W]
      rw [Int.emod_eq_of_lt q0 q1, Int.mul_comm]
      have ha := Add_eq (n % 18446744073709551616 * (D lo hi / (n % 18446744073709551616))) (D lo hi % (n % 18446744073709551616))
      rw [show W (D lo hi % (n % 18446744073709551616) / 18446744073709551616) = 0 from by
        rw [Int.ediv_eq_zero_of_lt r0 (by omega)]; decide, e] at ha
      rw [show dbl_Add (Pd (n % 18446744073709551616 * (D lo hi / (n % 18446744073709551616)))).fst (Pd (n % 18446744073709551616 * (D lo hi / (n % 18446744073709551616)))).snd (W (D lo hi % (n % 18446744073709551616))) 0 = some (Pd (D lo hi)) from ha]
      simp only [outOf_some, same_pair (Pd_D h1 h2)]
      unfold cell_Ult
      rw [wu, wu, mod_W, Int.emod_eq_of_lt r0 (by omega), decide_eq_true r1]
      rfl
    · rw [if_neg g] at hx; subst hx; rfl

/-- One signed way back: from a quotient and what is left. -/
theorem back_one {lo hi n q r : Int} (h1 : Cell lo) (h2 : Cell hi) (hn : Cell n) (hq : Cell q) (hr : Cell r) (h : n * q + r = S lo hi) :
    ∃ x y, dbl_Mul q n = some x ∧ dbl_Add x.1 x.2 (dbl_Of r).1 (dbl_Of r).2 = some y ∧ (!(y.1 == lo && (y.2 == hi && true))) = false := by
  refine ⟨_, _, Mul_eq hq hn, ?_, same_pair (Pd_S h1 h2)⟩
  rw [Of_eq hr]
  have := Add_eq (q * n) r
  rw [show q * n + r = S lo hi from by rw [Int.mul_comm]; exact h] at this
  exact this

theorem back_M2 {lo hi n : Int} (h1 : Cell lo) (h2 : Cell hi) (hn : Cell n) (x y : Int × Int × Int)
    (hx : x.2.2 = 0 → Cell x.1 ∧ Cell x.2.1 ∧ n * x.2.1 + x.1 = S lo hi) (hy : y.2.2 = 0 → Cell y.1 ∧ Cell y.2.1 ∧ n * y.2.1 + y.1 = S lo hi) :
    lawBack_M2 n x.1 x.2.1 x.2.2 y.1 y.2.1 y.2.2 lo hi = some (.inr ()) := by
  unfold lawBack_M2 lawBack_M2_t
  by_cases g : x.2.2 = 0
  · obtain ⟨u, v, e1, e2, e3⟩ := back_one h1 h2 hn (hx g).2.1 (hx g).1 (hx g).2.2
    rw [show (x.2.2 == 0) = true from by simp [g], e1]
    simp only [cond_true, outOf_some, e2, e3, cond_false]
    by_cases g' : y.2.2 = 0
    · obtain ⟨u, v, e1, e2, e3⟩ := back_one h1 h2 hn (hy g').2.1 (hy g').1 (hy g').2.2
      rw [show (y.2.2 == 0) = true from by simp [g'], e1]
      simp only [cond_true, outOf_some, e2, e3, cond_false]
    · rw [beq_eq_false_iff_ne.2 g']; rfl
  · rw [beq_eq_false_iff_ne.2 g]
    simp only [cond_false]
    by_cases g' : y.2.2 = 0
    · obtain ⟨u, v, e1, e2, e3⟩ := back_one h1 h2 hn (hy g').2.1 (hy g').1 (hy g').2.2
      rw [show (y.2.2 == 0) = true from by simp [g'], e1]
      simp only [cond_true, outOf_some, e2, e3, cond_false]
    · rw [beq_eq_false_iff_ne.2 g']; rfl

theorem zero_code (n : Int) (c : Prop) [Decidable c] (u : Int × Int) : ((n == 0) == ((if n = 0 then ((0 : Int), (0 : Int), (-10 : Int)) else if c then (u.1, u.2, 0) else (0, 0, -11)).2.2 == -10)) = true := by
  by_cases h : n = 0
  · rw [if_pos h, h]; rfl
  · rw [if_neg h, beq_eq_false_iff_ne.2 h]
    by_cases g : c
    · rw [if_pos g]; rfl
    · rw [if_neg g]; rfl

theorem back_val {lo hi n : Int} (h1 : Cell lo) (h2 : Cell hi) (hn : Cell n) : lawBack lo hi n = some true := by
  unfold lawBack lawBack_t
  simp only [UMod_eq h1 h2 hn, Symm_eq h1 h2 hn, Floor_eq h1 h2 hn, outOf_some]
  have hs : S lo hi < 0 ↔ hi < 0 := by unfold Cell at h1 h2; unfold S; omega
  have z1 := zero_code n (hi % 18446744073709551616 < n % 18446744073709551616) (W (D lo hi % (n % 18446744073709551616)), W (D lo hi / (n % 18446744073709551616)))
  have z2 := zero_code n (Cell ((S lo hi).tdiv n)) ((S lo hi).tmod n, (S lo hi).tdiv n)
  have z3 := zero_code n (Cell ((S lo hi).fdiv n)) ((S lo hi).fmod n, (S lo hi).fdiv n)
  simp only at z1 z2 z3
  rw [back_M1 h1 h2 hn _ rfl]
  simp only [outOf_some, sumOf_inr, z1, z2, z3, cond_true]
  clear z1 z2 z3
  have hx : ∀ x : Int × Int × Int, x = (if n = 0 then (0, 0, -10) else if Cell ((S lo hi).tdiv n) then ((S lo hi).tmod n, (S lo hi).tdiv n, 0) else (0, 0, -11)) →
      (x.2.2 = 0 → Cell x.1 ∧ Cell x.2.1 ∧ n * x.2.1 + x.1 = S lo hi) ∧ (x.2.2 = 0 → x.1 ≠ 0 → ((x.1 < 0) ↔ (hi < 0))) := by
    rintro x rfl
    by_cases h0 : n = 0
    · rw [if_pos h0]; exact ⟨fun h => absurd h (by decide), fun h => absurd h (by decide)⟩
    · rw [if_neg h0]
      by_cases g : Cell ((S lo hi).tdiv n)
      · rw [if_pos g]
        obtain ⟨f1, f2, f3⟩ := tmod_facts (S lo hi) n h0
        refine ⟨fun _ => ⟨by unfold Cell at *; simp only; omega, g, Int.mul_tdiv_add_tmod _ _⟩, fun _ hr => ?_⟩
        simp only at hr ⊢
        rw [← hs]
        constructor
        · intro h; exact Classical.byContradiction fun h' => by have := f2 (by omega); omega
        · intro h; have := f3 h; omega
      · rw [if_neg g]; exact ⟨fun h => absurd h (by decide), fun h => absurd h (by decide)⟩
  have hy : ∀ x : Int × Int × Int, x = (if n = 0 then (0, 0, -10) else if Cell ((S lo hi).fdiv n) then ((S lo hi).fmod n, (S lo hi).fdiv n, 0) else (0, 0, -11)) →
      (x.2.2 = 0 → Cell x.1 ∧ Cell x.2.1 ∧ n * x.2.1 + x.1 = S lo hi) ∧ (x.2.2 = 0 → x.1 ≠ 0 → ((x.1 < 0) ↔ (n < 0))) := by
    rintro x rfl
    by_cases h0 : n = 0
    · rw [if_pos h0]; exact ⟨fun h => absurd h (by decide), fun h => absurd h (by decide)⟩
    · rw [if_neg h0]
      by_cases g : Cell ((S lo hi).fdiv n)
      · rw [if_pos g]
        obtain ⟨f1, f2, f3⟩ := tmod_facts (S lo hi) n h0
        obtain ⟨e1, e2⟩ := fdiv_of_tdiv (S := S lo hi) h0 hs
        have key : Cell ((S lo hi).fmod n) ∧ ((S lo hi).fmod n ≠ 0 → ((S lo hi).fmod n < 0 ↔ n < 0)) := by
          rw [e2]
          by_cases gg : (S lo hi).tmod n ≠ 0 ∧ ((hi < 0) ≠ (n < 0))
          · rw [if_pos gg]
            obtain ⟨ga, gb⟩ := gg
            by_cases g1 : hi < 0
            · have g2 : ¬ n < 0 := fun h => gb (by simp [g1, h])
              have := f3 (hs.2 g1)
              unfold Cell at *
              omega
            · have g2 : n < 0 := Classical.byContradiction fun h => gb (by simp [g1, h])
              have := f2 (by omega)
              unfold Cell at *
              omega
          · rw [if_neg gg]
            refine ⟨by unfold Cell at *; omega, fun hr => ?_⟩
            by_cases g1 : hi < 0
            · have g2 : n < 0 := Classical.byContradiction fun h => gg ⟨hr, by simp [g1, h]⟩
              have := f3 (hs.2 g1)
              omega
            · have g2 : ¬ n < 0 := fun h => gg ⟨hr, by simp [g1, h]⟩
              have := f2 (by omega)
              omega
        refine ⟨fun _ => ⟨key.1, g, ?_⟩, fun _ hr => key.2 hr⟩
        show n * (S lo hi).fdiv n + (S lo hi).fmod n = S lo hi
        rw [Int.fmod_def]; omega
      · rw [if_neg g]; exact ⟨fun h => absurd h (by decide), fun h => absurd h (by decide)⟩
  generalize (if n = 0 then ((0 : Int), (0 : Int), (-10 : Int)) else if Cell ((S lo hi).tdiv n) then ((S lo hi).tmod n, (S lo hi).tdiv n, 0) else (0, 0, -11)) = x at *
  generalize (if n = 0 then ((0 : Int), (0 : Int), (-10 : Int)) else if Cell ((S lo hi).fdiv n) then ((S lo hi).fmod n, (S lo hi).fdiv n, 0) else (0, 0, -11)) = y at *
  obtain ⟨x1, x2⟩ := hx x rfl
  obtain ⟨y1, y2⟩ := hy y rfl
  rw [back_M2 h1 h2 hn x y x1 y1]
  simp only [outOf_some, sumOf_inr]
  have tail : (bif x.2.2 != 0 then some true else bif x.1 == 0 then some true else some (decide (x.1 < 0) == decide (hi < 0))) = some true := by
    by_cases g : x.2.2 = 0
    · by_cases g' : x.1 = 0
      · simp [g, g']
      · simp [g, beq_eq_false_iff_ne.2 g', x2 g g']
    · rw [show (x.2.2 != 0) = true from by simp [g]]; rfl
  rw [tail]
  by_cases g : y.2.2 = 0
  · by_cases g' : y.1 = 0
    · simp [g, g']
    · simp [g, beq_eq_false_iff_ne.2 g', y2 g g']
  · rw [show (y.2.2 != 0) = true from by simp [g]]; rfl

theorem dblBack_plain : ∀ d : DenL [.pair (.int .i64) (.int .i64), .int .i64], FitsL reachBytes [.pair (.int .i64) (.int .i64), .int .i64] d →
    lawBack_sp (AV × Heap) (argsAV Try.prog Try.f10.params.toList [.pair (.int .i64) (.int .i64), .int .i64] d) [] (fun v H => some (v, H)) = some (.lit (.bool true), []) := by
  rintro ⟨⟨d0, d1⟩, n, _⟩ ⟨⟨h0, h1⟩, hn, _⟩
  show outOf (lawBack d0 d1 n) (fun v => some (AV.lit (.bool v), [])) = _
  rw [back_val h0 h1 hn]
  rfl

theorem dblBack_run : ∀ d : DenL [.pair (.int .i64) (.int .i64), .int .i64], FitsL reachBytes [.pair (.int .i64) (.int .i64), .int .i64] d →
    ∃ sp, TX.Good Try.prog 10 sp ∧ ∃ H', sp (AV × Heap) (argsAV Try.prog Try.f10.params.toList [.pair (.int .i64) (.int .i64), .int .i64] d) [] (fun v H => some (v, H)) = some (.lit (.bool true), H') := by
  intro d hd
  exact ⟨lawBack_sp, lawBack_good, [], dblBack_plain d hd⟩

theorem dblBack_lifted (os : Os) (started : os.Started) (H : Type) (enc : TypeId × Value → H) :
    ReturnsInHanded {} Try.checked os 10 .any (Rows.dblBackSpec.pre6 enc Try.prog Try.f10 [] false) (Rows.dblBackSpec.post enc Try.prog Try.f10 false true false false) :=
  law_lifted (C := Try.checked) (fn := Try.f10) (code := bodyOf Try.f10) (tb := 4) (B := reachBytes) (by kernel_rfl) started (by kernel_rfl) Try.func10 (body_of rfl) (by kernel_rfl)
    (ChangeSpec.witness6 (enc := enc) (C := Try.checked) false ⟨#[], #[.agg #[.int .i64 0, .int .i64 0], .int .i64 0], []⟩ 8 (by kernel_rfl) (by kernel_rfl) (by kernel_rfl) (by kernel_rfl))
    (by kernel_rfl) (by kernel_rfl) (by kernel_rfl) (shs := [.pair (.int .i64) (.int .i64), .int .i64]) (by kernel_rfl) (by kernel_rfl) (by kernel_rfl) rfl
    (fun ds hd => match ds, hd with | [_, _], _ => rfl) (meas_said Try.prog H) dblBack_run

theorem dblBack_holds : Rows.DblBackSaid :=
  OpenClaim.holds_of_wide 10 Try.f10 rfl rfl rfl rfl rfl rfl rfl ⟨rfl, rfl, rfl, rfl, rfl⟩ rfl rfl rfl rfl rfl (by kernel_rfl) Try.func10 (by kernel_rfl)
    (of_decide_eq_true (by kernel_rfl)) (by unfold Func.isWrapper; rw [if_neg (by decide +kernel)]; exact ⟨rfl, rfl⟩)
    (fun os started H enc _ => dblBack_lifted os started H enc)

#print axioms dblBack_holds
end Go.Proofs.Ytnopacpjimllhaa
