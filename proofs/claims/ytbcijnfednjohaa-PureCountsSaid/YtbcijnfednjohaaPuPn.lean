/- Plain facts about single operations: how many cells each tells, and which throws. -/
import Derived.Test.YtbcijnfednjohaaPuPm
namespace Go.Proofs.Dbl
open Go Go.TX Go.Proofs
set_option maxRecDepth 100000
set_option maxHeartbeats 0
set_option linter.unusedVariables false
set_option linter.unusedSimpArgs false

def Thr (e : Int) : Prop := e = 0 ∨ e = -10 ∨ e = -11
theorem Thr0 : Thr 0 := .inl rfl
theorem F_thr (a b : Int) : Thr (F a b).2.2 := by unfold F Thr; split; · simp
                                                  split <;> simp
theorem Fl3_thr (a b c : Int) : Thr (Fl3 a b c).2.2 := by unfold Fl3 Thr; split; · simp
                                                          split <;> simp
theorem FlD_thr (a b c : Int) : Thr (FlD a b c).2.2 := by unfold FlD Thr; split; · simp
                                                          split <;> simp
theorem Sy_thr (a b c : Int) : Thr (Sy a b c).2.2 := by unfold Sy Thr; split; · simp
                                                        split <;> simp
theorem UM_thr (a b c : Int) : Thr (UM a b c).2.2 := by unfold UM Thr; split; · simp
                                                        split <;> simp
/-- Of n cells on top of a stack an operation tells m, or throws. -/
def Told (k n m : Nat) : Prop := ∀ X : List Int, X.length = n → AllC X → ∃ (Y : List Int) (e : Int), Y.length = m ∧ Thr e ∧ ∀ r : List Int, r.length + n ≤ 64 → Do_tab k (r ++ X) = some (fin r X Y e)

theorem td_18 : Told 18 1 2 := fun X hX hc => match X, hX, hc with | [a], _, ⟨ha, _⟩ => ⟨[a, a], 0, rfl, Thr0, fun r h => dk_18 h⟩
theorem td_19 : Told 19 1 0 := fun X hX hc => match X, hX, hc with | [a], _, ⟨ha, _⟩ => ⟨[], 0, rfl, Thr0, fun r h => dk_19 h⟩
theorem td_20 : Told 20 2 2 := fun X hX hc => match X, hX, hc with | [a, b], _, ⟨ha, hb, _⟩ => ⟨[b, a], 0, rfl, Thr0, fun r h => dk_20 h⟩
theorem td_21 : Told 21 2 3 := fun X hX hc => match X, hX, hc with | [a, b], _, ⟨ha, hb, _⟩ => ⟨[a, b, a], 0, rfl, Thr0, fun r h => dk_21 h⟩
theorem td_22 : Told 22 3 3 := fun X hX hc => match X, hX, hc with | [a, b, c], _, ⟨ha, hb, hc, _⟩ => ⟨[b, c, a], 0, rfl, Thr0, fun r h => dk_22 h⟩
theorem td_23 : Told 23 2 1 := fun X hX hc => match X, hX, hc with | [a, b], _, ⟨ha, hb, _⟩ => ⟨[b], 0, rfl, Thr0, fun r h => dk_23 h⟩
theorem td_24 : Told 24 2 3 := fun X hX hc => match X, hX, hc with | [a, b], _, ⟨ha, hb, _⟩ => ⟨[b, a, b], 0, rfl, Thr0, fun r h => dk_24 h⟩
theorem td_25 : Told 25 2 4 := fun X hX hc => match X, hX, hc with | [a, b], _, ⟨ha, hb, _⟩ => ⟨[a, b, a, b], 0, rfl, Thr0, fun r h => dk_25 h⟩
theorem td_26 : Told 26 2 0 := fun X hX hc => match X, hX, hc with | [a, b], _, ⟨ha, hb, _⟩ => ⟨[], 0, rfl, Thr0, fun r h => dk_26 h⟩
theorem td_27 : Told 27 4 4 := fun X hX hc => match X, hX, hc with | [a, b, c, d], _, ⟨ha, hb, hc, hd, _⟩ => ⟨[c, d, a, b], 0, rfl, Thr0, fun r h => dk_27 h⟩
theorem td_28 : Told 28 4 6 := fun X hX hc => match X, hX, hc with | [a, b, c, d], _, ⟨ha, hb, hc, hd, _⟩ => ⟨[a, b, c, d, a, b], 0, rfl, Thr0, fun r h => dk_28 h⟩
theorem td_33 : Told 33 2 1 := fun X hX hc => match X, hX, hc with | [a, b], _, ⟨ha, hb, _⟩ => ⟨[W (a + b)], 0, rfl, Thr0, fun r h => dk_33 h⟩
theorem td_34 : Told 34 2 1 := fun X hX hc => match X, hX, hc with | [a, b], _, ⟨ha, hb, _⟩ => ⟨[W (a - b)], 0, rfl, Thr0, fun r h => dk_34 h⟩
theorem td_35 : Told 35 2 1 := fun X hX hc => match X, hX, hc with | [a, b], _, ⟨ha, hb, _⟩ => ⟨[W (a * b)], 0, rfl, Thr0, fun r h => dk_35 h⟩
theorem td_41 : Told 41 1 1 := fun X hX hc => match X, hX, hc with | [a], _, ⟨ha, _⟩ => ⟨[W (a + 1)], 0, rfl, Thr0, fun r h => dk_41 h⟩
theorem td_42 : Told 42 1 1 := fun X hX hc => match X, hX, hc with | [a], _, ⟨ha, _⟩ => ⟨[W (a - 1)], 0, rfl, Thr0, fun r h => dk_42 h⟩
theorem td_72 : Told 72 1 1 := fun X hX hc => match X, hX, hc with | [a], _, ⟨ha, _⟩ => ⟨[W (a + 8)], 0, rfl, Thr0, fun r h => dk_72 h⟩
theorem td_45 : Told 45 1 1 := fun X hX hc => match X, hX, hc with | [a], _, ⟨ha, _⟩ => ⟨[W (0 - a)], 0, rfl, Thr0, fun r h => dk_45 h⟩
theorem td_43 : Told 43 1 1 := fun X hX hc => match X, hX, hc with | [a], _, ⟨ha, _⟩ => ⟨[W (a * 2)], 0, rfl, Thr0, fun r h => dk_43 h⟩
theorem td_71 : Told 71 1 1 := fun X hX hc => match X, hX, hc with | [a], _, ⟨ha, _⟩ => ⟨[W (a * 8)], 0, rfl, Thr0, fun r h => dk_71 h⟩
theorem td_73 : Told 73 1 1 := fun X hX hc => match X, hX, hc with | [a], _, ⟨ha, _⟩ => ⟨[W (a + 1)], 0, rfl, Thr0, fun r h => dk_73 h⟩
theorem td_36 : Told 36 2 1 := fun X hX hc => match X, hX, hc with | [a, b], _, ⟨ha, hb, _⟩ => ⟨[(F a b).1], (F a b).2.2, rfl, F_thr a b, fun r h => dk_36 h ha hb⟩
theorem td_37 : Told 37 2 1 := fun X hX hc => match X, hX, hc with | [a, b], _, ⟨ha, hb, _⟩ => ⟨[(F a b).2.1], (F a b).2.2, rfl, F_thr a b, fun r h => dk_37 h ha hb⟩
theorem td_38 : Told 38 2 2 := fun X hX hc => match X, hX, hc with | [a, b], _, ⟨ha, hb, _⟩ => ⟨[(F a b).2.1, (F a b).1], (F a b).2.2, rfl, F_thr a b, fun r h => dk_38 h ha hb⟩
theorem td_39 : Told 39 3 1 := fun X hX hc => match X, hX, hc with | [a, b, c], _, ⟨ha, hb, hc, _⟩ => ⟨[(Fl3 a b c).2.1], (Fl3 a b c).2.2, rfl, Fl3_thr a b c, fun r h => dk_39 h ha hb hc⟩
theorem td_40 : Told 40 3 2 := fun X hX hc => match X, hX, hc with | [a, b, c], _, ⟨ha, hb, hc, _⟩ => ⟨[(Fl3 a b c).1, (Fl3 a b c).2.1], (Fl3 a b c).2.2, rfl, Fl3_thr a b c, fun r h => dk_40 h ha hb hc⟩
theorem td_65 : Told 65 3 2 := fun X hX hc => match X, hX, hc with | [a, b, c], _, ⟨ha, hb, hc, _⟩ => ⟨[(UM a b c).1, (UM a b c).2.1], (UM a b c).2.2, rfl, UM_thr a b c, fun r h => dk_65 h ha hb hc⟩
theorem td_66 : Told 66 3 2 := fun X hX hc => match X, hX, hc with | [a, b, c], _, ⟨ha, hb, hc, _⟩ => ⟨[(FlD a b c).1, (FlD a b c).2.1], (FlD a b c).2.2, rfl, FlD_thr a b c, fun r h => dk_66 h ha hb hc⟩
theorem td_67 : Told 67 3 2 := fun X hX hc => match X, hX, hc with | [a, b, c], _, ⟨ha, hb, hc, _⟩ => ⟨[(Sy a b c).1, (Sy a b c).2.1], (Sy a b c).2.2, rfl, Sy_thr a b c, fun r h => dk_67 h ha hb hc⟩
theorem td_44 : Told 44 1 1 := fun X hX hc => match X, hX, hc with | [a], _, ⟨ha, _⟩ => ⟨[Int.fdiv a 2], 0, rfl, Thr0, fun r h => dk_44 h⟩
theorem td_46 : Told 46 1 1 := fun X hX hc => match X, hX, hc with | [a], _, ⟨ha, _⟩ => ⟨[if W (0 - a) > a then W (0 - a) else a], 0, rfl, Thr0, fun r h => dk_46 h⟩
theorem td_47 : Told 47 2 1 := fun X hX hc => match X, hX, hc with | [a, b], _, ⟨ha, hb, _⟩ => ⟨[if b < a then b else a], 0, rfl, Thr0, fun r h => dk_47 h⟩
theorem td_48 : Told 48 2 1 := fun X hX hc => match X, hX, hc with | [a, b], _, ⟨ha, hb, _⟩ => ⟨[if b > a then b else a], 0, rfl, Thr0, fun r h => dk_48 h⟩
theorem td_49 : Told 49 2 1 := fun X hX hc => match X, hX, hc with | [a, b], _, ⟨ha, hb, _⟩ => ⟨[ibits .and .i64 a b], 0, rfl, Thr0, fun r h => dk_49 h⟩
theorem td_50 : Told 50 2 1 := fun X hX hc => match X, hX, hc with | [a, b], _, ⟨ha, hb, _⟩ => ⟨[ibits .or .i64 a b], 0, rfl, Thr0, fun r h => dk_50 h⟩
theorem td_51 : Told 51 2 1 := fun X hX hc => match X, hX, hc with | [a, b], _, ⟨ha, hb, _⟩ => ⟨[ibits .xor .i64 a b], 0, rfl, Thr0, fun r h => dk_51 h⟩
theorem td_52 : Told 52 1 1 := fun X hX hc => match X, hX, hc with | [a], _, ⟨ha, _⟩ => ⟨[ibits .xor .i64 (-1) a], 0, rfl, Thr0, fun r h => dk_52 h⟩
theorem td_53 : Told 53 2 1 := fun X hX hc => match X, hX, hc with | [a, b], _, ⟨ha, hb, _⟩ => ⟨[shlV a b], 0, rfl, Thr0, fun r h => dk_53 h hb⟩
theorem td_54 : Told 54 2 1 := fun X hX hc => match X, hX, hc with | [a, b], _, ⟨ha, hb, _⟩ => ⟨[shrV a b], 0, rfl, Thr0, fun r h => dk_54 h hb⟩
theorem td_55 : Told 55 2 1 := fun X hX hc => match X, hX, hc with | [a, b], _, ⟨ha, hb, _⟩ => ⟨[if a == b then -1 else 0], 0, rfl, Thr0, fun r h => dk_55 h⟩
theorem td_56 : Told 56 2 1 := fun X hX hc => match X, hX, hc with | [a, b], _, ⟨ha, hb, _⟩ => ⟨[if a != b then -1 else 0], 0, rfl, Thr0, fun r h => dk_56 h⟩
theorem td_57 : Told 57 2 1 := fun X hX hc => match X, hX, hc with | [a, b], _, ⟨ha, hb, _⟩ => ⟨[if decide (a < b) then -1 else 0], 0, rfl, Thr0, fun r h => dk_57 h⟩
theorem td_58 : Told 58 2 1 := fun X hX hc => match X, hX, hc with | [a, b], _, ⟨ha, hb, _⟩ => ⟨[if decide (a > b) then -1 else 0], 0, rfl, Thr0, fun r h => dk_58 h⟩
theorem td_59 : Told 59 2 1 := fun X hX hc => match X, hX, hc with | [a, b], _, ⟨ha, hb, _⟩ => ⟨[if cell_Ult a b then -1 else 0], 0, rfl, Thr0, fun r h => dk_59 h⟩
theorem td_60 : Told 60 1 1 := fun X hX hc => match X, hX, hc with | [a], _, ⟨ha, _⟩ => ⟨[if a == 0 then -1 else 0], 0, rfl, Thr0, fun r h => dk_60 h⟩
theorem td_61 : Told 61 1 1 := fun X hX hc => match X, hX, hc with | [a], _, ⟨ha, _⟩ => ⟨[if decide (a < 0) then -1 else 0], 0, rfl, Thr0, fun r h => dk_61 h⟩
theorem td_62 : Told 62 3 1 := fun X hX hc => match X, hX, hc with | [a, b, c], _, ⟨ha, hb, hc, _⟩ => ⟨[if cell_Within a b c then -1 else 0], 0, rfl, Thr0, fun r h => dk_62 h⟩
theorem td_63 : Told 63 2 2 := fun X hX hc => match X, hX, hc with | [a, b], _, ⟨ha, hb, _⟩ => ⟨[(dbl_UMul a b).1, (dbl_UMul a b).2], 0, rfl, Thr0, fun r h => dk_63 h⟩
theorem td_64 : Told 64 2 2 := fun X hX hc => match X, hX, hc with | [a, b], _, ⟨ha, hb, _⟩ => ⟨[(Pd (a * b)).1, (Pd (a * b)).2], 0, rfl, Thr0, fun r h => dk_64 h ha hb⟩
theorem td_68 : Told 68 1 2 := fun X hX hc => match X, hX, hc with | [a], _, ⟨ha, _⟩ => ⟨[(dbl_Of a).1, (dbl_Of a).2], 0, rfl, Thr0, fun r h => dk_68 h⟩
theorem td_69 : Told 69 4 2 := fun X hX hc => match X, hX, hc with | [a, b, c, d], _, ⟨ha, hb, hc, hd, _⟩ => ⟨[(Pd (S a b + S c d)).1, (Pd (S a b + S c d)).2], 0, rfl, Thr0, fun r h => dk_69 h ha hb hc hd⟩
theorem td_70 : Told 70 2 2 := fun X hX hc => match X, hX, hc with | [a, b], _, ⟨ha, hb, _⟩ => ⟨[(Pd (-S a b)).1, (Pd (-S a b)).2], 0, rfl, Thr0, fun r h => dk_70 h ha hb⟩
theorem td_74 : Told 74 1 1 := fun X hX hc => match X, hX, hc with | [a], _, ⟨ha, _⟩ => ⟨[cell_Aligned a], 0, rfl, Thr0, fun r h => dk_74 h⟩

def leavL : List Nat := [2, 0, 2, 3, 3, 1, 3, 4, 0, 4, 6, 0, 1, 0, 1, 1, 1, 1, 1, 1, 2, 1, 2, 1, 1, 1, 1, 1, 1, 1, 1, 1, 1, 1, 1, 1, 1, 1, 1, 1, 1, 1, 1, 1, 1, 2, 2, 2, 2, 2, 2, 2, 2, 1, 1, 1, 1]
def leav (k : Nat) : Nat := leavL.getD (k - 18) 0
theorem told_tab : ∀ k : Nat, 18 ≤ k → k ≤ 74 → (k < 29 ∨ 32 < k) → Told k (need k) (leav k)
  | 18, _, _, _ => td_18
  | 19, _, _, _ => td_19
  | 20, _, _, _ => td_20
  | 21, _, _, _ => td_21
  | 22, _, _, _ => td_22
  | 23, _, _, _ => td_23
  | 24, _, _, _ => td_24
  | 25, _, _, _ => td_25
  | 26, _, _, _ => td_26
  | 27, _, _, _ => td_27
  | 28, _, _, _ => td_28
  | 29, _, _, h => by omega
  | 30, _, _, h => by omega
  | 31, _, _, h => by omega
  | 32, _, _, h => by omega
  | 33, _, _, _ => td_33
  | 34, _, _, _ => td_34
  | 35, _, _, _ => td_35
  | 36, _, _, _ => td_36
  | 37, _, _, _ => td_37
  | 38, _, _, _ => td_38
  | 39, _, _, _ => td_39
  | 40, _, _, _ => td_40
  | 41, _, _, _ => td_41
  | 42, _, _, _ => td_42
  | 43, _, _, _ => td_43
  | 44, _, _, _ => td_44
  | 45, _, _, _ => td_45
  | 46, _, _, _ => td_46
  | 47, _, _, _ => td_47
  | 48, _, _, _ => td_48
  | 49, _, _, _ => td_49
  | 50, _, _, _ => td_50
  | 51, _, _, _ => td_51
  | 52, _, _, _ => td_52
  | 53, _, _, _ => td_53
  | 54, _, _, _ => td_54
  | 55, _, _, _ => td_55
  | 56, _, _, _ => td_56
  | 57, _, _, _ => td_57
  | 58, _, _, _ => td_58
  | 59, _, _, _ => td_59
  | 60, _, _, _ => td_60
  | 61, _, _, _ => td_61
  | 62, _, _, _ => td_62
  | 63, _, _, _ => td_63
  | 64, _, _, _ => td_64
  | 65, _, _, _ => td_65
  | 66, _, _, _ => td_66
  | 67, _, _, _ => td_67
  | 68, _, _, _ => td_68
  | 69, _, _, _ => td_69
  | 70, _, _, _ => td_70
  | 71, _, _, _ => td_71
  | 72, _, _, _ => td_72
  | 73, _, _, _ => td_73
  | 74, _, _, _ => td_74
  | 0, h, _, _ | 1, h, _, _ | 2, h, _, _ | 3, h, _, _ | 4, h, _, _ | 5, h, _, _ | 6, h, _, _ | 7, h, _, _ | 8, h, _, _ | 9, h, _, _ | 10, h, _, _ | 11, h, _, _ | 12, h, _, _ | 13, h, _, _ | 14, h, _, _ | 15, h, _, _ | 16, h, _, _ | 17, h, _, _ => by omega
  | n + 75, _, h, _ => by omega

theorem leaves_in : (List.range 57).all (fun n => match op_Leaves ((n + 18 : Nat) : Int) with | some g => g.1 == (leav (n + 18) : Int) && (g.2 == decide (n ≠ 11)) | none => false) = true := by kernel_rfl

theorem leaves_eq {k : Nat} (h1 : 18 ≤ k) (h2 : k ≤ 74) : op_Leaves (k : Int) = some ((leav k : Int), decide (k ≠ 29)) := by
  have := List.all_eq_true.1 leaves_in (k - 18) (List.mem_range.2 (by omega))
  rw [show k - 18 + 18 = k from by omega] at this
  cases hg : op_Leaves (k : Int) with
  | none => rw [hg] at this; cases this
  | some g =>
    rw [hg] at this
    simp only [Bool.and_eq_true, beq_iff_eq] at this
    obtain ⟨g1, g2⟩ := g
    have e : decide (k - 18 ≠ 11) = decide (k ≠ 29) := by
      by_cases h : k = 29
      · subst h; rfl
      · rw [decide_eq_true (by omega), decide_eq_true h]
    rw [e] at this
    rw [← this.1, ← this.2]

theorem needs_eq {k : Nat} (h1 : 18 ≤ k) (h2 : k ≤ 74) : op_Needs (k : Int) = some (need k : Int) := by
  have := List.all_eq_true.1 need_in (k - 18) (List.mem_range.2 (by omega))
  rw [show k - 18 + 18 = k from by omega] at this
  cases hg : op_Needs (k : Int) with
  | none => rw [hg] at this; cases this
  | some g => rw [hg] at this; rw [beq_iff_eq.1 this]

theorem group_eq {k : Nat} (h1 : 18 ≤ k) (h2 : k ≤ 74) : op_Group (k : Int) = some 1 := by
  have := List.all_eq_true.1 group_in k (List.mem_range.2 (by omega))
  cases hg : op_Group (k : Int) with
  | none => rw [hg] at this; cases this
  | some g =>
    rw [hg] at this
    have h2 : decide (18 ≤ k ∧ k ≤ 74) = true := decide_eq_true (by omega)
    simp only [h2] at this
    have h3 : (g == 1) = true := by simpa using this
    rw [beq_iff_eq.1 h3]

/-- What an operation leaves that throws nothing. -/
structure LeftOf (k : Nat) (d y : List Int) : Prop where
  need_le : need k ≤ d.length
  d_le : d.length ≤ 64
  y_le : y.length ≤ 64
  roll : k = 31 → y.length + 1 = d.length
  pick : k = 30 → y.length = d.length
  leaves : k ≠ 30 → k ≠ 31 → k ≠ 29 → y.length + need k = d.length + leav k
  keeps : k ≠ 30 → k ≠ 31 → d.length ≤ y.length + need k ∧ y.take (d.length - need k) = d.take (d.length - need k)

def Counted (k : Nat) (d : List Int) : Prop := ∃ y e, Do_tab k d = some (y, e) ∧ ((e ≠ 0 ∧ y = d ∧ e ≠ -21) ∨ (e = 0 ∧ LeftOf k d y))

theorem counted_gen {k : Nat} {d : List Int} (h1 : 18 ≤ k) (h2 : k ≤ 74) (hk : k < 29 ∨ 32 < k) (hd : AllC d) (hn : need k ≤ d.length) (hl : d.length ≤ 64) : Counted k d := by
  obtain ⟨r, x, rfl, hx, hr⟩ := split_at (d := d) (n := need k) hn
  obtain ⟨y, e, hy, he, ht⟩ := told_tab k h1 h2 hk x hx (AllC_append.1 hd).2
  refine ⟨(fin r x y e).1, (fin r x y e).2, ht r (by omega), ?_⟩
  unfold fin
  by_cases h0 : e = 0
  · subst h0
    rw [if_neg (by simp)]
    by_cases g : 64 < r.length + y.length
    · rw [if_pos g]; exact .inl ⟨by simp, rfl, by simp⟩
    · rw [if_neg g]
      refine .inr ⟨rfl, by simp; omega, hl, by simp; omega, by omega, by omega, fun _ _ _ => by simp; omega, fun _ _ => ⟨by simp; omega, ?_⟩⟩
      have e1 : (r ++ x).length - need k = r.length := by simp; omega
      rw [e1, List.take_left', List.take_left'] <;> rfl
  · rw [if_pos h0]
    refine .inl ⟨h0, rfl, ?_⟩
    rcases he with h | h | h <;> simp [h]

theorem counted_29 {d : List Int} (hd : AllC d) (h1 : 1 ≤ d.length) (h2 : d.length ≤ 64) : Counted 29 d := by
  have e29 : need 29 = 1 := by decide
  show ∃ y e, Do_29 d = some (y, e) ∧ _
  unfold Do_29 Do_29_t
  rw [cf (by omega), cf (by omega), Pick_eq (by omega) zero_cell, if_pos (by omega)]
  simp only [outOf_some]
  generalize d.getD (d.length - 1 - (0 : Int).toNat) 0 = x at *
  by_cases hx : x = 0
  · rw [show (x == 0) = true from by simp [hx]]
    exact ⟨_, _, rfl, .inr ⟨rfl, by omega, h2, h2, by omega, by omega, by omega, fun _ _ => ⟨by omega, rfl⟩⟩⟩
  · rw [beq_eq_false_iff_ne.2 hx, Push_eq (by omega) (by simp)]
    by_cases g : 64 < d.length + [x].length
    · rw [if_pos g]; exact ⟨_, _, rfl, .inl ⟨by simp, rfl, by simp⟩⟩
    · rw [if_neg g]
      simp at g
      refine ⟨_, _, rfl, .inr ⟨rfl, by omega, h2, by simp; omega, by omega, by omega, by omega, fun _ _ => ⟨by simp; omega, ?_⟩⟩⟩
      rw [List.take_append_of_le_length (by omega)]

theorem counted_32 {d : List Int} (hd : AllC d) (h2 : d.length ≤ 64) : Counted 32 d := by
  have e32 : need 32 = 0 := by decide
  have l32 : leav 32 = 1 := by decide
  show ∃ y e, Do_32 d = some (y, e) ∧ _
  unfold Do_32 Do_32_t
  rw [cf (by omega), cf (by omega), Push_eq (by omega) (by simp)]
  by_cases g : 64 < d.length + [(d.length : Int)].length
  · rw [if_pos g]; exact ⟨_, _, rfl, .inl ⟨by simp, rfl, by simp⟩⟩
  · rw [if_neg g]
    simp at g
    refine ⟨_, _, rfl, .inr ⟨rfl, by omega, h2, by simp; omega, by omega, by omega, fun _ _ _ => by simp; omega, fun _ _ => ⟨by simp; omega, ?_⟩⟩⟩
    rw [List.take_append_of_le_length (by omega)]

theorem counted_30 {d : List Int} (hd : AllC d) (h1 : 1 ≤ d.length) (h2 : d.length ≤ 64) : Counted 30 d := by
  have e30 : need 30 = 1 := by decide
  obtain ⟨r, a, rfl, hr⟩ := last1 d h1
  have hra := AllC_append.1 hd
  show ∃ y e, Do_30 _ = some (y, e) ∧ _
  unfold Do_30 Do_30_t
  rw [cf (by omega), cf (by omega), popX1 (by omega)]
  simp only [outOf_some]
  rw [ct (by simp)]
  rw [show List.getD [a] 0 0 = a from rfl, Pick_eq (by omega) hra.2.1]
  by_cases g : 0 ≤ a ∧ a < (r.length : Int)
  · rw [if_pos g]
    simp only [outOf_some]
    generalize r.getD (r.length - 1 - a.toNat) 0 = x at *
    rw [Push_eq (by omega) (by simp)]
    by_cases g2 : 64 < r.length + [x].length
    · rw [if_pos g2]; exact ⟨_, _, rfl, .inl ⟨by simp, rfl, by simp⟩⟩
    · rw [if_neg g2]
      refine ⟨_, _, rfl, .inr ⟨rfl, by simp; omega, h2, by simp at g2 ⊢; omega, by omega, fun _ => by simp, fun h => absurd rfl h, fun h => absurd rfl h⟩⟩
  · rw [if_neg g]; exact ⟨_, _, rfl, .inl ⟨by simp, rfl, by simp⟩⟩

theorem counted_31 {d : List Int} (hd : AllC d) (h1 : 1 ≤ d.length) (h2 : d.length ≤ 64) : Counted 31 d := by
  have e31 : need 31 = 1 := by decide
  obtain ⟨r, a, rfl, hr⟩ := last1 d h1
  have hra := AllC_append.1 hd
  show ∃ y e, Do_31 _ = some (y, e) ∧ _
  unfold Do_31 Do_31_t
  rw [cf (by omega), cf (by omega), popX1 (by omega)]
  simp only [outOf_some]
  rw [ct (by simp)]
  rw [show List.getD [a] 0 0 = a from rfl, Roll_eq (by omega) hra.2.1]
  by_cases g : 0 ≤ a ∧ a < (r.length : Int)
  · rw [if_pos g]
    refine ⟨_, _, rfl, .inr ⟨rfl, by simp; omega, h2, ?_, fun _ => ?_, by omega, fun _ h => absurd rfl h, fun _ h => absurd rfl h⟩⟩
    · simp; omega
    · simp; omega
  · rw [if_neg g]; exact ⟨_, _, rfl, .inl ⟨by simp, rfl, by simp⟩⟩

theorem counted {k : Nat} {d : List Int} (h1 : 18 ≤ k) (h2 : k ≤ 74) (hd : AllC d) : Counted k d := by
  by_cases hn : d.length < need k
  · exact ⟨d, -4, tab_un k h1 h2 hn, .inl ⟨by simp, rfl, by simp⟩⟩
  · by_cases hl : 64 < d.length
    · exact ⟨d, -3, tab_ov hl k h1 h2, .inl ⟨by simp, rfl, by simp⟩⟩
    · by_cases hs : k < 29 ∨ 32 < k
      · exact counted_gen h1 h2 hs hd (by omega) (by omega)
      · have hk : k = 29 ∨ k = 30 ∨ k = 31 ∨ k = 32 := by omega
        rcases hk with rfl | rfl | rfl | rfl
        · exact counted_29 hd (Nat.not_lt.1 hn) (by omega)
        · exact counted_30 hd (Nat.not_lt.1 hn) (by omega)
        · exact counted_31 hd (Nat.not_lt.1 hn) (by omega)
        · exact counted_32 hd (by omega)

end Go.Proofs.Dbl
