/- Plain facts about stacks. -/
import Derived.Test.YtbcijnfednjohaaPuXB
import Derived.Test.YtbcijnfednjohaaPuPe
namespace Go.Proofs.Dbl
open Go Go.TX Go.Proofs
set_option maxRecDepth 100000
set_option maxHeartbeats 0
set_option linter.unusedVariables false
set_option linter.unusedSimpArgs false

theorem ct {A : Type} {p : Prop} [Decidable p] (h : p) {x y : A} : cond (decide p) x y = x := by rw [decide_eq_true h]; rfl
theorem cf {A : Type} {p : Prop} [Decidable p] (h : ¬ p) {x y : A} : cond (decide p) x y = y := by rw [decide_eq_false h]; rfl

def lens (ls : List (List Int)) (i : Nat) : Nat := ((ls.take i).map List.length).sum

theorem take_more {A : Type} (l : List A) {i : Nat} (h : i < l.length) (d : A) : l.take (i + 1) = l.take i ++ [l.getD i d] := by
  rw [List.take_add_one, List.getElem?_eq_getElem h, List.getD_eq_getElem?_getD, List.getElem?_eq_getElem h]; rfl

theorem lens_more (ls : List (List Int)) {i : Nat} (h : i < ls.length) : lens ls (i + 1) = lens ls i + (ls.getD i []).length := by
  unfold lens; rw [take_more ls h []]; simp

theorem lens_le (ls : List (List Int)) (i : Nat) : lens ls i ≤ lens ls ls.length := by
  unfold lens
  conv => rhs; rw [← List.take_append_drop i ls]
  rw [List.take_of_length_le (l := List.take i ls ++ List.drop i ls) (by simp), List.map_append, List.sum_append]
  omega

theorem flat_more (ls : List (List Int)) {i : Nat} (h : i < ls.length) : (ls.take (i + 1)).flatten = (ls.take i).flatten ++ ls.getD i [] := by
  rw [take_more ls h []]; simp

theorem flat_len (ls : List (List Int)) (i : Nat) : (ls.take i).flatten.length = lens ls i := by
  unfold lens; simp [List.length_flatten]

theorem Concat_L1 (ls : List (List Int)) (h : lens ls ls.length ≤ 1000000) (hl : ls.length ≤ 1000) : slices_Concat_L1 (ls, 0, ls, (ls.length : Int), 0) = some (ls, (lens ls ls.length : Int)) := by
  refine runs_all (fun i => (ls, (lens ls i : Int), ls, (ls.length : Int), (i : Int))) ls.length (fun i hi => ?_) ?_
  · unfold slices_Concat_L1_pass slices_Concat_L1_t
    simp only [wi, Int.toNat_natCast]
    have h1 := lens_le ls (i + 1)
    rw [lens_more ls hi] at h1
    rw [decide_eq_true (by omega), decide_eq_true (by omega)]
    have e : W ((lens ls i : Int) + ((ls.getD i []).length : Int)) = ((lens ls (i + 1) : Nat) : Int) := by
      rw [lens_more ls hi, W_of (by unfold Cell; omega)]; omega
    rw [e, decide_eq_false (by omega), show W ((i : Int) + 1) = ((i + 1 : Nat) : Int) from by unfold W; omega]
    rfl
  · unfold slices_Concat_L1_pass slices_Concat_L1_t
    simp

theorem Concat_L2 (ls : List (List Int)) (m : List Int) (h : lens ls ls.length ≤ 1000000) (hl : ls.length ≤ 1000) :
    ∃ m', slices_Concat_L2 (0, ls, (ls.length : Int), 0, m) = some (lens ls ls.length, m') ∧ m'.take (lens ls ls.length) = ls.flatten := by
  have key : ∀ k, k ≤ ls.length → ∀ m1 : List Int, m1.take (lens ls (ls.length - k)) = (ls.take (ls.length - k)).flatten →
      ∃ m', runs slices_Concat_L2_pass (lens ls (ls.length - k), ls, (ls.length : Int), ((ls.length - k : Nat) : Int), m1) = some (lens ls ls.length, m') ∧ m'.take (lens ls ls.length) = ls.flatten := by
    intro k
    induction k with
    | zero =>
      intro _ m1 hm
      rw [Nat.sub_zero] at hm ⊢
      refine ⟨m1, runs_out ?_, by rw [hm, List.take_length]⟩
      unfold slices_Concat_L2_pass slices_Concat_L2_t
      simp only
      rw [cf (by omega)]
    | succ k ih =>
      intro hk m1 hm
      have hi : ls.length - (k + 1) < ls.length := by omega
      generalize hii : ls.length - (k + 1) = i at *
      have e1 : ls.length - k = i + 1 := by omega
      rw [e1] at ih
      have h1 := lens_le ls (i + 1)
      have hl2 := lens_more ls hi
      have hnext : slices_Concat_L2_pass (lens ls i, ls, (ls.length : Int), (i : Int), m1) = some (.inl (lens ls (i + 1), ls, (ls.length : Int), ((i + 1 : Nat) : Int), m1.take (lens ls i) ++ ls.getD i [])) := by
        unfold slices_Concat_L2_pass slices_Concat_L2_t
        simp only [wi, Int.toNat_natCast, List.drop_zero]
        rw [ct (by omega), ct (by omega), ct (by omega), show W ((i : Int) + 1) = ((i + 1 : Nat) : Int) from by unfold W; omega, hl2]
      rw [runs_next hnext]
      refine ih (by omega) _ ?_
      rw [hm, ← flat_more ls hi, List.take_of_length_le (by rw [flat_len]; omega)]
  have := key ls.length (Nat.le_refl _) m (by rw [Nat.sub_self]; simp [lens])
  rw [Nat.sub_self] at this
  have e0 : lens ls 0 = 0 := by simp [lens]
  rw [e0] at this
  exact this

theorem Concat_eq (ls : List (List Int)) (h : lens ls ls.length ≤ 1000000) (hl : ls.length ≤ 1000) : slices_Concat ls = some ls.flatten := by
  have e : IntKind.wrap .i64 ((lens ls ls.length : Int) - 0) = (lens ls ls.length : Int) := by rw [wi, Int.sub_zero]; exact W_of (by unfold Cell; omega)
  have h2 : ∀ m : List Int, outOf (slices_Concat_L2 (0, ls, (ls.length : Int), 0, m)) (fun (x : Nat × List Int) => some (List.take x.1 (List.drop 0 x.2))) = some ls.flatten := fun m => by
    obtain ⟨m', h1, h2⟩ := Concat_L2 ls m h hl
    rw [h1]
    show some (List.take _ (List.drop 0 m')) = _
    rw [List.drop_zero, h2]
  have h1 := Concat_L1 ls h hl
  unfold slices_Concat slices_Concat_t
  rw [h1]
  generalize lens ls ls.length = T at *
  show cond (decide ((T : Int) < 0)) none (cond (decide (IntKind.wrap .i64 ((T : Int) - 0) > 0)) _ _) = _
  rw [cf (by omega), e]
  by_cases g : (T : Int) > 0
  · rw [ct g, ct (by omega)]
    exact h2 _
  · rw [cf g]
    exact h2 _

theorem Concat2 {a b : List Int} (h : a.length + b.length ≤ 100000) : slices_Concat [a, b] = some (a ++ b) := by
  rw [Concat_eq [a, b] (by simp [lens]; omega) (by simp)]; simp
theorem Concat3 {a b c : List Int} (h : a.length + b.length + c.length ≤ 100000) : slices_Concat [a, b, c] = some (a ++ b ++ c) := by
  rw [Concat_eq [a, b, c] (by simp [lens]; omega) (by simp)]; simp

theorem Push_eq {l x : List Int} (h1 : l.length ≤ 1000) (h2 : x.length ≤ 1000) : stk_Push l 64 x = some (if 64 < l.length + x.length then (l, -3) else (l ++ x, 0)) := by
  unfold stk_Push stk_Push_t
  rw [wi, show W ((l.length : Int) + (x.length : Int)) = (l.length : Int) + (x.length : Int) from W_of (by unfold Cell; omega), Concat2 (by omega)]
  by_cases h : 64 < l.length + x.length
  · rw [if_pos h, decide_eq_true (by omega)]; rfl
  · rw [if_neg h, decide_eq_false (by omega)]; rfl

theorem Pop_eq {l : List Int} {n : Nat} (h1 : n ≤ l.length) (h2 : l.length ≤ 1000) : stk_Pop l (n : Int) = some (l.take (l.length - n), l.drop (l.length - n), 0) := by
  unfold stk_Pop stk_Pop_t stk_Pop_M1 stk_Pop_M1_t
  have e : IntKind.wrap .i64 ((l.length : Int) - (n : Int)) = ((l.length - n : Nat) : Int) := by rw [wi]; unfold W; omega
  rw [e, decide_eq_false (by omega), decide_eq_false (by omega), decide_eq_true (by omega), decide_eq_true (by omega)]
  simp only [cond_false, cond_true, outOf_some, sumOf_inr, Int.toNat_natCast, Nat.sub_zero, List.drop_zero]
  rw [List.take_of_length_le (l := List.drop _ _) (by simp)]

theorem Pick_eq {l : List Int} {n : Int} (h2 : l.length ≤ 1000) (hn : Cell n) : stk_Pick l n = some (if 0 ≤ n ∧ n < l.length then (l.getD (l.length - 1 - n.toNat) 0, 0) else (0, -4)) := by
  unfold stk_Pick stk_Pick_t
  by_cases h0 : n < 0
  · rw [decide_eq_true h0, if_neg (by omega)]; rfl
  · rw [decide_eq_false h0]
    by_cases h1 : n ≥ (l.length : Int)
    · rw [decide_eq_true h1, if_neg (by omega)]; rfl
    · rw [decide_eq_false h1, if_pos (by omega)]
      have e : IntKind.wrap .i64 (IntKind.wrap .i64 ((l.length : Int) - 1) - n) = ((l.length - 1 - n.toNat : Nat) : Int) := by rw [wi, wi]; unfold W; omega
      rw [e, decide_eq_true (by omega)]
      simp only [cond_false, cond_true, Int.toNat_natCast]

theorem Roll_eq {l : List Int} {n : Int} (h2 : l.length ≤ 1000) (hn : Cell n) : stk_Roll l n = some (if 0 ≤ n ∧ n < l.length then (l.take (l.length - 1 - n.toNat) ++ l.drop (l.length - n.toNat) ++ [l.getD (l.length - 1 - n.toNat) 0], 0) else (l, -4)) := by
  unfold stk_Roll stk_Roll_t
  rw [Pick_eq h2 hn]
  by_cases h : 0 ≤ n ∧ n < (l.length : Int)
  · rw [if_pos h, if_pos h]
    have e : IntKind.wrap .i64 (IntKind.wrap .i64 ((l.length : Int) - 1) - n) = ((l.length - 1 - n.toNat : Nat) : Int) := by rw [wi, wi]; unfold W; omega
    have e2 : IntKind.wrap .i64 (((l.length - 1 - n.toNat : Nat) : Int) + 1) = ((l.length - n.toNat : Nat) : Int) := by rw [wi]; unfold W; omega
    simp only [outOf_some, e, e2]
    rw [decide_eq_true (by omega), decide_eq_true (by omega)]
    simp only [bne_self_eq_false, cond_false, cond_true, Int.toNat_natCast, Nat.sub_zero, List.drop_zero]
    rw [Concat3 (by simp; omega), List.take_of_length_le (l := List.drop _ _) (by simp)]
    rfl
  · rw [if_neg h, if_neg h]; rfl

/-- What Permute takes of some cells. -/
def picks (x : List Int) (to : List Int) : List Int := to.map fun k => x.getD k.toNat 0

theorem Permute_L1 (l x0 x : List Int) (to : List Int) (h : ∀ k ∈ to, 0 ≤ k ∧ k < (x.length : Int)) (hl : to.length ≤ 1000) :
    ∃ m, stk_Permute_L1 (l, 64, x0, x, 0, to, (to.length : Int), 0, []) = some (.inr (l, 64, x0, to.length, m)) ∧ m.take to.length = picks x to := by
  have := runs_all (pass := stk_Permute_L1_pass) (fun i => (l, (64 : Int), x0, x, i, to, (to.length : Int), (i : Int), picks x (to.take i))) to.length
    (x := .inr (l, (64 : Int), x0, to.length, picks x (to.take to.length))) (fun i hi => ?_) ?_
  · refine ⟨_, this, ?_⟩
    rw [List.take_length, List.take_of_length_le (by simp [picks])]
  · unfold stk_Permute_L1_pass stk_Permute_L1_t
    have hk : 0 ≤ to.getD i 0 ∧ to.getD i 0 < (x.length : Int) := h _ (by
      rw [List.getD_eq_getElem?_getD, List.getElem?_eq_getElem hi]; exact List.getElem_mem hi)
    simp only [wi, Int.toNat_natCast, List.drop_zero]
    have hi2 : (i : Int) < (to.length : Int) := by omega
    rw [ct hi2, ct (by omega), cf (by omega), cf (by omega), ct hk, ct (by simp; omega),
      show W ((i : Int) + 1) = ((i + 1 : Nat) : Int) from by unfold W; omega, List.take_of_length_le (by simp [picks]; omega), take_more to hi 0]
    simp [picks]
  · unfold stk_Permute_L1_pass stk_Permute_L1_t
    simp

theorem Permute_eq {l : List Int} {n : Nat} {to : List Int} (h1 : n ≤ l.length) (h2 : l.length ≤ 1000) (h : ∀ k ∈ to, 0 ≤ k ∧ k < (n : Int)) (hl : to.length ≤ 1000) :
    stk_Permute l (n : Int) to 64 = some (if 64 < l.length - n + to.length then (l, -3) else (l.take (l.length - n) ++ picks (l.drop (l.length - n)) to, 0)) := by
  unfold stk_Permute stk_Permute_t
  rw [Pop_eq h1 h2]
  simp only [outOf_some, bne_self_eq_false, cond_false]
  obtain ⟨m, g1, g2⟩ := Permute_L1 l (l.take (l.length - n)) (l.drop (l.length - n)) to (fun k hk => by have := h k hk; simp; omega) hl
  rw [g1]
  simp only [outOf_some, sumOf_inr, List.drop_zero, g2]
  have hp : (picks (l.drop (l.length - n)) to).length = to.length := by simp [picks]
  rw [Push_eq (by simp; omega) (by omega), hp, List.length_take, Nat.min_eq_left (by omega)]
  by_cases g : 64 < l.length - n + to.length
  · rw [if_pos g, if_pos g]; rfl
  · rw [if_neg g, if_neg g]; rfl

end Go.Proofs.Dbl
