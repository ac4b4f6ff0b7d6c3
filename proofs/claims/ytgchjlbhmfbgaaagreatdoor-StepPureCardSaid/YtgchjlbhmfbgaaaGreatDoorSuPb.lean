/- What is thrown. -/
import Derived.Test.YtgchjlbhmfbgaaaGreatDoorSuPa
import Derived.Test.YtgchjlbhmfbgaaaGreatDoorSuXC
namespace Go.Proofs.Dbl
open Go Go.TX Go.Proofs
set_option maxRecDepth 100000
set_option maxHeartbeats 0
set_option linter.unusedVariables false
set_option linter.unusedSimpArgs false

theorem most_le (a b : Int) (h : b = if (if 63 < a then 63 else a) > 0 then (if 63 < a then 63 else a) else 0) : 0 ≤ b ∧ b ≤ 63 := by
  subst h
  split
  · split <;> omega
  · omega

theorem Throw_ok (D R : List Int) (th at_ H n : Int) (h : SaneP D R th at_ H) :
    ∃ D' R' th' at' H' c, ret_Throw D R th at_ H n = some (D', R', th', at', H', c) ∧ D'.length ≤ 64 ∧ R'.length ≤ 64 := by
  obtain ⟨h1, h2, h3, h4⟩ := h
  unfold ret_Throw ret_Throw_t
  rw [saneT ⟨h1, h2, h3, h4⟩]
  simp only [outOf_some]
  by_cases h0 : H = 0
  · subst h0
    exact ⟨_, _, _, _, _, _, rfl, h1, h2⟩
  · have hH : 3 ≤ H ∧ H ≤ (R.length : Int) := by rcases h4 with h | h; exact absurd h h0; exact h
    rw [show (H == 0) = false by simpa using h0, wi, W_of (x := H - 3) ⟨by omega, by omega⟩]
    simp only [cond_false]
    have hl : (List.take (H.toNat - (H - 3).toNat) (List.drop (H - 3).toNat R)).length = 3 := by simp; omega
    rw [hl]
    rw [ct (by omega), ct (by decide)]
    generalize List.take (H.toNat - (H - 3).toNat) (List.drop (H - 3).toNat R) = f at *
    obtain ⟨⟨p, q, ok⟩, hp⟩ := At_eq (f.getD 2 0)
    rw [hp]
    simp only [outOf_some]
    cases ok with
    | false => exact ⟨_, _, _, _, _, _, rfl, h1, by simp⟩
    | true =>
      rw [Bool.not_true, cond_false, ct (by decide)]
      generalize hm : (if (if 63 < f.getD 1 0 then 63 else f.getD 1 0) > 0 then (if 63 < f.getD 1 0 then 63 else f.getD 1 0) else 0) = m
      obtain ⟨m1, m2⟩ := most_le _ _ hm.symm
      unfold ret_deep ret_deep_t
      rw [ct (by omega)]
      simp only [outOf_some]
      rw [ct (by simp; omega), ct (by decide), ct (by omega), ct (by simp; omega)]
      generalize hd : List.take (m.toNat + [n].length) _ = d
      generalize hr : List.take ((H - 3).toNat - 0) (List.drop 0 R) = r
      have l1 : d.length ≤ 64 := by rw [← hd, List.length_take]; simp only [List.length_singleton]; omega
      have l2 : r.length ≤ 64 := by rw [← hr, List.length_take, List.length_drop]; omega
      obtain ⟨hh, e⟩ := with_eq d [] p q (f.getD 0 0) r
      rw [e]
      exact ⟨_, _, _, _, _, _, rfl, l1, l2⟩

theorem Few0 (D R : List Int) (th at_ H : Int) (M : List Int) (o : ByteArray) (me ti : Int) (hi : List (Int × Int × Int × Int)) :
    ∃ b, r14_Few [] [] 0 D R th at_ H M o me ti hi = some b ∧ (b = true → hi.length ≤ 450) := by
  unfold r14_Few r14_Few_t
  have e1 : r14_Few_L1 (0, [], [], 0, D, R, th, at_, H, M, o, me, ti, hi) = some (.inr ([], [], 0, D, R, th, at_, H, M, o, me, ti, hi)) := runs_out rfl
  have e2 : r11_Few [] = some true := by
    unfold r11_Few r11_Few_t
    rw [show r11_Few_L1 ([], 0) = some (.inr []) from runs_out rfl]
    rfl
  have e3 : ∃ b, r13_Few D R th at_ H = some b := by
    unfold r13_Few r13_Few_t
    cases decide ((D.length : Int) ≤ 100)
    · exact ⟨_, rfl⟩
    · exact ⟨_, rfl⟩
  obtain ⟨b, hb⟩ := e3
  rw [e1]
  simp only [outOf_some, sumOf_inr]
  rw [ct (by simp), e2]
  simp only [outOf_some, cond_true]
  rw [hb]
  simp only [outOf_some]
  cases b with
  | false => exact ⟨false, rfl, fun h => by cases h⟩
  | true =>
    simp only [cond_true]
    cases decide ((M.length : Int) ≤ 5120) with
    | false => exact ⟨false, rfl, fun h => by cases h⟩
    | true =>
      cases decide ((o.size : Int) ≤ 1000) with
      | false => exact ⟨false, rfl, fun h => by cases h⟩
      | true => exact ⟨_, rfl, fun h => by have := of_decide_eq_true h; omega⟩

theorem Lib0 (th at_ : Int) : step_Lib [] [] 0 th at_ = some false := by
  unfold step_Lib step_Lib_t
  by_cases h : th ≥ 0
  · rw [ct h, decide_eq_false (by omega)]
  · rw [cf h]

theorem throws_eq (D R : List Int) (th at_ H : Int) (M : List Int) (o : ByteArray) (me ti : Int) (hi : List (Int × Int × Int × Int)) (n : Int) : lawThrows D R th at_ H M o me ti hi n = some true := by
  obtain ⟨b, hb, hlen⟩ := Few0 D R th at_ H M o me ti hi
  unfold lawThrows lawThrows_t
  rw [hb]
  simp only [outOf_some]
  cases b with
  | false => rfl
  | true =>
    have hlen := hlen rfl
    simp only [Bool.not_true, cond_false, l14_task, l14_state, l14_was, l14_told]
    rw [Sane_eq]
    simp only [outOf_some]
    by_cases hs : SaneP D R th at_ H
    · rw [decide_eq_true hs]
      obtain ⟨D', R', th', at', H', c, e, l1, l2⟩ := Throw_ok D R th at_ H n hs
      obtain ⟨h1, h2, h3, h4⟩ := hs
      have same : r14_Same D R th at_ H M o me ti hi D R th at_ H M o me ti hi = some true := Same14 _ _ _ _ _ _ _ _ _ _ (by omega) (by omega) (by omega)
      have same' : r14_Same D' R' th' at' H' M o me ti hi D' R' th' at' H' M o me ti hi = some true := Same14 _ _ _ _ _ _ _ _ _ _ (by omega) (by omega) (by omega)
      have sr : r4_Same R' R' = some true := r4Same_eq _ (by omega)
      have st : step_Throw [] [] 0 D R th at_ H M o me ti hi n = if n = 0 then some (D, R, th, at_, H, M, o, me, ti, hi, 0, 0, 0) else some (D', R', th', at', H', M, o, me, ti, hi, if c then 0 else 2, if c then 0 else n, 0) := by
        unfold step_Throw step_Throw_t
        rw [saneS ⟨h1, h2, h3, h4⟩]
        simp only [outOf_some]
        by_cases hn : n = 0
        · subst hn; rfl
        · rw [show (n == 0) = false by simpa using hn, if_neg hn, e]
          simp only [outOf_some, cond_false, Lib0]
          cases c <;> rfl
      rw [st, e]
      simp only [Bool.not_true, cond_false]
      by_cases hn : n = 0
      · subst hn
        simp only [if_true, outOf_some, beq_self_eq_true, Bool.and_true, cond_true]
        rw [same]
        rfl
      · rw [if_neg hn, show (n == 0) = false by simpa using hn]
        simp only [outOf_some, cond_false]
        rw [same']
        simp only [outOf_some, cond_true]
        cases c with
        | true =>
          simp only [if_true, beq_self_eq_true, Bool.and_true, cond_true]
          rw [sr]
          rfl
        | false =>
          simp only [beq_self_eq_true, Bool.and_true, cond_true, cond_false, Bool.not_false, Bool.false_eq_true, if_false]
          rw [sr]
          rfl
    · rw [decide_eq_false hs]; rfl
end Go.Proofs.Dbl
