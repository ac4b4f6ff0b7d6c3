/- Plain facts about single operations: each tells something, of cells cells. -/
import Derived.Test.YtbcijnfednjohaaPuPl
namespace Go.Proofs.Dbl
open Go Go.TX Go.Proofs
set_option maxRecDepth 100000
set_option maxHeartbeats 0
set_option linter.unusedVariables false
set_option linter.unusedSimpArgs false

theorem tells_tab : ∀ k : Nat, 18 ≤ k → k ≤ 74 → (k < 29 ∨ 32 < k) → ∃ m, Tells k (need k) m
  | 18, _, _, _ => ⟨2, tl_18⟩
  | 19, _, _, _ => ⟨0, tl_19⟩
  | 20, _, _, _ => ⟨2, tl_20⟩
  | 21, _, _, _ => ⟨3, tl_21⟩
  | 22, _, _, _ => ⟨3, tl_22⟩
  | 23, _, _, _ => ⟨1, tl_23⟩
  | 24, _, _, _ => ⟨3, tl_24⟩
  | 25, _, _, _ => ⟨4, tl_25⟩
  | 26, _, _, _ => ⟨0, tl_26⟩
  | 27, _, _, _ => ⟨4, tl_27⟩
  | 28, _, _, _ => ⟨6, tl_28⟩
  | 29, _, _, h => by omega
  | 30, _, _, h => by omega
  | 31, _, _, h => by omega
  | 32, _, _, h => by omega
  | 33, _, _, _ => ⟨1, tl_33⟩
  | 34, _, _, _ => ⟨1, tl_34⟩
  | 35, _, _, _ => ⟨1, tl_35⟩
  | 36, _, _, _ => ⟨1, tl_36⟩
  | 37, _, _, _ => ⟨1, tl_37⟩
  | 38, _, _, _ => ⟨2, tl_38⟩
  | 39, _, _, _ => ⟨1, tl_39⟩
  | 40, _, _, _ => ⟨2, tl_40⟩
  | 41, _, _, _ => ⟨1, tl_41⟩
  | 42, _, _, _ => ⟨1, tl_42⟩
  | 43, _, _, _ => ⟨1, tl_43⟩
  | 44, _, _, _ => ⟨1, tl_44⟩
  | 45, _, _, _ => ⟨1, tl_45⟩
  | 46, _, _, _ => ⟨1, tl_46⟩
  | 47, _, _, _ => ⟨1, tl_47⟩
  | 48, _, _, _ => ⟨1, tl_48⟩
  | 49, _, _, _ => ⟨1, tl_49⟩
  | 50, _, _, _ => ⟨1, tl_50⟩
  | 51, _, _, _ => ⟨1, tl_51⟩
  | 52, _, _, _ => ⟨1, tl_52⟩
  | 53, _, _, _ => ⟨1, tl_53⟩
  | 54, _, _, _ => ⟨1, tl_54⟩
  | 55, _, _, _ => ⟨1, tl_55⟩
  | 56, _, _, _ => ⟨1, tl_56⟩
  | 57, _, _, _ => ⟨1, tl_57⟩
  | 58, _, _, _ => ⟨1, tl_58⟩
  | 59, _, _, _ => ⟨1, tl_59⟩
  | 60, _, _, _ => ⟨1, tl_60⟩
  | 61, _, _, _ => ⟨1, tl_61⟩
  | 62, _, _, _ => ⟨1, tl_62⟩
  | 63, _, _, _ => ⟨2, tl_63⟩
  | 64, _, _, _ => ⟨2, tl_64⟩
  | 65, _, _, _ => ⟨2, tl_65⟩
  | 66, _, _, _ => ⟨2, tl_66⟩
  | 67, _, _, _ => ⟨2, tl_67⟩
  | 68, _, _, _ => ⟨2, tl_68⟩
  | 69, _, _, _ => ⟨2, tl_69⟩
  | 70, _, _, _ => ⟨2, tl_70⟩
  | 71, _, _, _ => ⟨1, tl_71⟩
  | 72, _, _, _ => ⟨1, tl_72⟩
  | 73, _, _, _ => ⟨1, tl_73⟩
  | 74, _, _, _ => ⟨1, tl_74⟩
  | 0, h, _, _ | 1, h, _, _ | 2, h, _, _ | 3, h, _, _ | 4, h, _, _ | 5, h, _, _ | 6, h, _, _ | 7, h, _, _ | 8, h, _, _ | 9, h, _, _ | 10, h, _, _ | 11, h, _, _ | 12, h, _, _ | 13, h, _, _ | 14, h, _, _ | 15, h, _, _ | 16, h, _, _ | 17, h, _, _ => by omega
  | n + 75, _, h, _ => by omega

theorem AllC_append {l m : List Int} : AllC (l ++ m) ↔ AllC l ∧ AllC m := by
  induction l with
  | nil => simp [AllC]
  | cons a l ih => simp [AllC, ih, and_assoc]
theorem AllC_get {l : List Int} (h : AllC l) : ∀ i, Cell (l.getD i 0) := by
  induction l with
  | nil => intro i; simpa using zero_cell
  | cons a l ih =>
    intro i
    cases i with
    | zero => exact h.1
    | succ i => exact ih h.2 i
theorem AllC_take {l : List Int} (h : AllC l) (n : Nat) : AllC (l.take n) := by
  have := h; rw [← List.take_append_drop n l, AllC_append] at this; exact this.1
theorem AllC_drop {l : List Int} (h : AllC l) (n : Nat) : AllC (l.drop n) := by
  have := h; rw [← List.take_append_drop n l, AllC_append] at this; exact this.2
theorem AllC_of {l : List Int} (h : ∀ x ∈ l, Cell x) : AllC l := by
  induction l with
  | nil => trivial
  | cons a l ih => exact ⟨h a (by simp), ih fun x hx => h x (by simp [hx])⟩

def Fine (r : Option (List Int × Int)) : Prop := ∃ d e, r = some (d, e) ∧ AllC d ∧ d.length ≤ 64

theorem last1 (l : List Int) (h : 1 ≤ l.length) : ∃ r a, l = r ++ [a] ∧ r.length + 1 = l.length := by
  refine ⟨l.take (l.length - 1), l.getD (l.length - 1) 0, ?_, by simp; omega⟩
  conv => lhs; rw [← List.take_append_drop (l.length - 1) l]
  congr 1
  rw [List.drop_eq_getElem_cons (by omega), show l.length - 1 + 1 = l.length from by omega, List.drop_length]
  simp [List.getD_eq_getElem?_getD, show l.length - 1 < l.length from by omega]

theorem fine_29 {d : List Int} (hd : AllC d) (h1 : 1 ≤ d.length) (h2 : d.length ≤ 64) : Fine (Do_29 d) := by
  unfold Do_29 Do_29_t
  rw [cf (by omega), cf (by omega), Pick_eq (by omega) zero_cell, if_pos (by omega)]
  simp only [outOf_some]
  have hc := AllC_get hd (d.length - 1 - (0 : Int).toNat)
  generalize d.getD (d.length - 1 - (0 : Int).toNat) 0 = x at *
  by_cases hx : x = 0
  · rw [show (x == 0) = true from by simp [hx]]; exact ⟨_, _, rfl, hd, h2⟩
  · rw [beq_eq_false_iff_ne.2 hx, Push_eq (by omega) (by simp)]
    by_cases g : 64 < d.length + [x].length
    · rw [if_pos g]; exact ⟨_, _, rfl, hd, h2⟩
    · rw [if_neg g]; exact ⟨_, _, rfl, AllC_append.2 ⟨hd, hc, trivial⟩, by simp at g ⊢; omega⟩

theorem fine_32 {d : List Int} (hd : AllC d) (h2 : d.length ≤ 64) : Fine (Do_32 d) := by
  unfold Do_32 Do_32_t
  rw [cf (by omega), cf (by omega), Push_eq (by omega) (by simp)]
  by_cases g : 64 < d.length + [(d.length : Int)].length
  · rw [if_pos g]; exact ⟨_, _, rfl, hd, h2⟩
  · rw [if_neg g]; exact ⟨_, _, rfl, AllC_append.2 ⟨hd, by unfold Cell; omega, trivial⟩, by simp at g ⊢; omega⟩

theorem fine_30 {d : List Int} (hd : AllC d) (h1 : 1 ≤ d.length) (h2 : d.length ≤ 64) : Fine (Do_30 d) := by
  obtain ⟨r, a, rfl, hr⟩ := last1 d h1
  have hra := AllC_append.1 hd
  unfold Do_30 Do_30_t
  rw [cf (by omega), cf (by omega), popX1 (by omega)]
  simp only [outOf_some]
  rw [ct (by simp)]
  rw [show List.getD [a] 0 0 = a from rfl, Pick_eq (by omega) hra.2.1]
  by_cases g : 0 ≤ a ∧ a < (r.length : Int)
  · rw [if_pos g]
    have hc := AllC_get hra.1 (r.length - 1 - a.toNat)
    simp only [outOf_some]
    generalize r.getD (r.length - 1 - a.toNat) 0 = x at *
    rw [Push_eq (by omega) (by simp)]
    by_cases g2 : 64 < r.length + [x].length
    · rw [if_pos g2]; exact ⟨_, _, rfl, hd, h2⟩
    · rw [if_neg g2]; exact ⟨_, _, rfl, AllC_append.2 ⟨hra.1, hc, trivial⟩, by simp at g2 ⊢; omega⟩
  · rw [if_neg g]; exact ⟨_, _, rfl, hd, h2⟩

theorem fine_31 {d : List Int} (hd : AllC d) (h1 : 1 ≤ d.length) (h2 : d.length ≤ 64) : Fine (Do_31 d) := by
  obtain ⟨r, a, rfl, hr⟩ := last1 d h1
  have hra := AllC_append.1 hd
  unfold Do_31 Do_31_t
  rw [cf (by omega), cf (by omega), popX1 (by omega)]
  simp only [outOf_some]
  rw [ct (by simp)]
  rw [show List.getD [a] 0 0 = a from rfl, Roll_eq (by omega) hra.2.1]
  by_cases g : 0 ≤ a ∧ a < (r.length : Int)
  · rw [if_pos g]
    refine ⟨_, _, rfl, AllC_append.2 ⟨AllC_append.2 ⟨AllC_take hra.1 _, AllC_drop hra.1 _⟩, AllC_get hra.1 _, trivial⟩, ?_⟩
    simp
    omega
  · rw [if_neg g]; exact ⟨_, _, rfl, hd, h2⟩

theorem split_at {d : List Int} {n : Nat} (h : n ≤ d.length) : ∃ r x, d = r ++ x ∧ x.length = n ∧ r.length + n = d.length :=
  ⟨d.take (d.length - n), d.drop (d.length - n), (List.take_append_drop _ _).symm, by simp; omega, by simp; omega⟩

theorem group_out {o : Int} (h : ¬ (18 ≤ o ∧ o ≤ 74)) : ∃ g, op_Group o = some g ∧ g ≠ 1 := by
  by_cases hf : o < 0 ∨ 111 ≤ o
  · exact ⟨-1, group_far hf, by decide⟩
  · have := List.all_eq_true.1 group_in o.toNat (List.mem_range.2 (by omega))
    rw [Int.toNat_of_nonneg (by omega)] at this
    cases hg : op_Group o with
    | none => rw [hg] at this; cases this
    | some g =>
      rw [hg] at this
      refine ⟨g, rfl, fun e => ?_⟩
      subst e
      have h2 : decide (18 ≤ o.toNat ∧ o.toNat ≤ 74) = false := decide_eq_false (by omega)
      simp only [h2] at this
      cases this

theorem Do_fine {o : Int} {d : List Int} (hd : AllC d) (h : d.length ≤ 64) : Fine (pure_Do o d) := by
  by_cases g : 18 ≤ o ∧ o ≤ 74
  · obtain ⟨k, rfl⟩ : ∃ k : Nat, o = (k : Int) := ⟨o.toNat, by omega⟩
    rw [Do_at (by omega) (by omega)]
    by_cases hn : d.length < need k
    · rw [tab_un k (by omega) (by omega) hn]; exact ⟨_, _, rfl, hd, h⟩
    · by_cases hs : k < 29 ∨ 32 < k
      · obtain ⟨m, ht⟩ := tells_tab k (by omega) (by omega) hs
        obtain ⟨r, x, rfl, hx, hr⟩ := split_at (d := d) (n := need k) (by omega)
        have hra := AllC_append.1 hd
        obtain ⟨y, e, hy, _, _, ht⟩ := ht x hx hra.2
        rw [ht r (by omega)]
        unfold fin
        split
        · exact ⟨_, _, rfl, hd, h⟩
        · split
          · exact ⟨_, _, rfl, hd, h⟩
          · exact ⟨_, _, rfl, AllC_append.2 ⟨hra.1, hy⟩, by simp; omega⟩
      · have hk : k = 29 ∨ k = 30 ∨ k = 31 ∨ k = 32 := by omega
        rcases hk with rfl | rfl | rfl | rfl
        · exact fine_29 hd (Nat.not_lt.1 hn) h
        · exact fine_30 hd (Nat.not_lt.1 hn) h
        · exact fine_31 hd (Nat.not_lt.1 hn) h
        · exact fine_32 hd h
  · obtain ⟨v, hv, hne⟩ := group_out g
    unfold pure_Do
    rw [if_neg g, hv]
    refine ⟨d, -21, ?_, hd, h⟩
    show cond (v != 1) _ _ = _
    rw [show (v != 1) = true from by simpa using hne]; rfl

theorem allF_fine : ∀ (l d : List Int), AllC d → d.length ≤ 64 → Fine (allF l d)
  | [], d, hd, h => ⟨d, 0, rfl, hd, h⟩
  | o :: l, d, hd, h => by
    obtain ⟨d1, e1, h1, h2, h3⟩ := Do_fine (o := o) hd h
    by_cases he : e1 = 0
    · subst he
      rw [allF_ok h1]
      exact allF_fine l d1 h2 h3
    · rw [allF_no h1 he]; exact ⟨_, _, rfl, h2, h3⟩

theorem allF_append (l m d : List Int) : allF (l ++ m) d = outOf (allF l d) fun x => cond (x.2 != (0 : Int)) (some x) (allF m x.1) := by
  induction l generalizing d with
  | nil => rfl
  | cons o l ih =>
    show outOf (pure_Do o d) _ = outOf (outOf (pure_Do o d) _) _
    cases pure_Do o d with
    | none => rfl
    | some x =>
      simp only [outOf_some]
      cases hx : (x.2 != 0)
      · simp only [cond_false]; exact ih x.1
      · simp only [cond_true, outOf_some, hx]

end Go.Proofs.Dbl
