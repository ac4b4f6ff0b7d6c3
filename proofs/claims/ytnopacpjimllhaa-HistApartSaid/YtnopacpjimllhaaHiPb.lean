/- Plain facts: the loop over a history. -/
import Derived.Test.YtnopacpjimllhaaHiPa
namespace Go.Proofs.Dbl
open Go Go.TX Go.Proofs
set_option maxRecDepth 100000
set_option maxHeartbeats 0
set_option linter.unusedVariables false
set_option linter.unusedSimpArgs false

theorem lastOk_put {ops : List OpT} {last : Last} (hl : LastOk (ops, last)) {ops' : List OpT} (hn : ops.length ≤ ops'.length) {t o a : Int} (ho : o = -1 ∨ (0 ≤ o ∧ o < (ops'.length : Int))) : LastOk (ops', mPut last t (o, a)) := by
  intro j hj
  have hle := hl j
  simp only [mHas_put, mGetD_put] at hj hle ⊢
  cases hjt : j == t with
  | true => exact ho
  | false =>
    rw [hjt, Bool.false_or] at hj
    rcases hle hj with h | h
    · exact .inl h
    · exact .inr ⟨h.1, by simp only [cond_false]; omega⟩

theorem stepO_ok {at_ i : Int} {e : Ev} {s s' : List OpT × Last} (hl : LastOk s) (h : stepO at_ i e s = some s') : LastOk s' ∧ s'.1.length ≤ s.1.length + 1 := by
  unfold stepO at h
  obtain ⟨ops, last⟩ := s
  simp only at h
  split at h
  · split at h
    · cases h
      refine ⟨lastOk_put hl (by simp) (.inr ?_), by simp⟩
      simp only [List.length_append, List.length_singleton]; omega
    · cases h
      exact ⟨lastOk_put hl (Nat.le_refl _) (.inl rfl), by simp⟩
  · split at h
    · split at h
      · cases h
      · split at h
        · cases h
        · split at h
          · cases h
          · split at h
            · cases h
            · cases h
              exact ⟨lastOk_put hl (by simp) (.inl rfl), by simp⟩
    · cases h
      exact ⟨hl, by simp⟩

theorem ops_pass {at_ : Int} {h : List Ev} {i : Nat} {ops : List OpT} {last : Last} (hi : i < h.length) (hh : h.length ≤ 1000) (hl : LastOk (ops, last)) (hn : ops.length ≤ i) :
    hist_Ops_L1_pass (at_, h, (h.length : Int), (i : Int), at_, ops.length, ops, last) =
      (match stepO at_ i h[i] (ops, last) with
      | none => some (.inr (.inl ([], false)))
      | some s => some (.inl (at_, h, (h.length : Int), ((i + 1 : Nat) : Int), at_, s.1.length, s.1, s.2))) := by
  unfold hist_Ops_L1_pass hist_Ops_L1_t
  have hg : h.getD i (0, 0, 0, 0) = h[i] := by simp [List.getD_eq_getElem?_getD, hi]
  simp only [Int.toNat_natCast, hg]
  rw [ct (by omega), ct (by omega), markOf_eq]
  simp only [outOf_some]
  rw [wnat (by omega)]
  generalize h[i] = e
  unfold stepO
  simp only
  rw [call_eq (by omega), back_eq hl]
  simp only [outOf_some]
  cases hm : (markF e.2.1).2.1 with
  | true =>
    simp only [cond_true, if_true]
    by_cases ha : e.2.2.1 = at_
    · rw [if_pos ha, if_pos ha]
      simp only [sumOf_inl, List.length_append, List.length_singleton]
    · rw [if_neg ha, if_neg ha]
      rfl
  | false =>
    simp only [cond_false, Bool.false_eq_true, if_false]
    by_cases ha : e.2.2.1 = at_
    · rw [if_pos ha, show (e.2.2.1 == at_) = true from by rw [ha]; exact beq_self_eq_true _]
      simp only [cond_true]
      by_cases h1 : (markF e.2.1).1 = -1
      · rw [if_pos h1, if_pos h1]; rfl
      rw [if_neg h1, if_neg h1]
      by_cases h2 : mHas last e.1 = false
      · rw [if_pos h2, if_pos h2]; rfl
      rw [if_neg h2, if_neg h2]
      by_cases h3 : (mGetD last e.1 (0, 0)).1 = -1
      · rw [if_pos h3, if_pos h3]; rfl
      rw [if_neg h3, if_neg h3]
      by_cases h4 : (ops.getD (mGetD last e.1 (0, 0)).1.toNat (0, 0, 0, 0, false, 0, 0)).2.1 ≠ (markF e.2.1).1
      · rw [if_pos h4, if_pos h4]; rfl
      rw [if_neg h4, if_neg h4]
      simp only [Bool.not_true, cond_false, List.length_set]
    · rw [if_neg ha, beq_eq_false_iff_ne.2 ha]
      rfl

theorem ops_loop {at_ : Int} {h : List Ev} (hh : h.length ≤ 1000) : ∀ (k i : Nat) (s : List OpT × Last), i + k = h.length → LastOk s → s.1.length ≤ i →
    runs hist_Ops_L1_pass (at_, h, (h.length : Int), (i : Int), at_, s.1.length, s.1, s.2) =
      some (match runO at_ i (h.drop i) s with | none => .inl ([], false) | some s => .inr (at_, s.1.length, s.1, s.2))
  | 0, i, s, hk, hl, hn => by
    have : i = h.length := by omega
    subst this
    rw [List.drop_length]
    refine runs_out ?_
    unfold hist_Ops_L1_pass hist_Ops_L1_t
    simp only
    rw [cf (by omega)]
    rfl
  | k + 1, i, s, hk, hl, hn => by
    obtain ⟨ops, last⟩ := s
    simp only at hn
    have hi : i < h.length := by omega
    have hp := ops_pass (at_ := at_) hi hh hl hn
    rw [List.drop_eq_getElem_cons hi]
    simp only [runO]
    cases hs : stepO at_ i h[i] (ops, last) with
    | none =>
      rw [hs] at hp
      rw [runs_out hp]
    | some s' =>
      rw [hs] at hp
      simp only at hp
      obtain ⟨g1, g2⟩ := stepO_ok hl hs
      simp only at g2
      rw [runs_next hp]
      exact ops_loop hh k (i + 1) s' (by omega) g1 (by omega)

theorem Ops_eq {at_ : Int} {h : List Ev} (hh : h.length ≤ 1000) : hist_Ops h at_ = some (match runO at_ 0 h ([], []) with | none => ([], false) | some s => (s.1, true)) := by
  unfold hist_Ops hist_Ops_t hist_Ops_L1
  have := ops_loop (at_ := at_) hh h.length 0 ([], []) (by omega) (fun t ht => by cases ht) (Nat.le_refl _)
  simp only [List.length_nil, List.drop_zero] at this
  rw [show ((0 : Nat) : Int) = 0 from rfl] at this
  rw [this]
  cases runO at_ 0 h ([], []) with
  | none => rfl
  | some s =>
    simp only [outOf_some, sumOf_inr, List.drop_zero, List.take_length]

theorem awake_ops : hist_Ops [(0, 1, 8, 5), (1, 3, 8, 0), (1, 4, 8, 5), (0, 2, 8, -1)] 8 = some ([(0, 0, 5, 0, true, 0, 3), (1, 1, 0, 5, true, 1, 2)], true) := by
  rw [Ops_eq (by simp)]
  rfl

end Go.Proofs.Dbl
