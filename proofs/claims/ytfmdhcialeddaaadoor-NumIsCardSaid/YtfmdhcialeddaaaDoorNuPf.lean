/- NumDoubles: the plain law. -/
import Derived.Test.YtfmdhcialeddaaaDoorNuPe
namespace Go.Proofs.Dbl
open Go Go.TX Go.Proofs
set_option maxRecDepth 100000
set_option maxHeartbeats 0
set_option linter.unusedVariables false
set_option linter.unusedSimpArgs false

theorem ends_drop {l : List UInt8} {c : UInt8} {k : Nat} (h : ends l [c] = false) : ends (l.drop k) [c] = false := by
  cases h2 : ends (l.drop k) [c] with
  | false => rfl
  | true =>
    exfalso
    simp only [ends, List.length_singleton, Bool.and_eq_true, decide_eq_true_eq, List.length_drop, List.drop_drop, beq_iff_eq] at h2
    have : ends l [c] = true := by
      simp only [ends, List.length_singleton, Bool.and_eq_true, decide_eq_true_eq, beq_iff_eq]
      refine ⟨by omega, ?_⟩
      rw [← h2.2]; congr 1; omega
    rw [h] at this; cases this

theorem ends_snoc (l : List UInt8) (c d : UInt8) : ends (l ++ [d]) [c] = (d == c) := by
  simp only [ends, List.length_singleton, List.length_append]
  rw [decide_eq_true (by omega)]
  have : l.length + 1 - 1 = l.length := by omega
  rw [this, List.drop_left]
  simp

theorem starts_snoc {l : List UInt8} (h : l ≠ []) (c d : UInt8) : starts (l ++ [d]) [c] = starts l [c] := by
  cases l with
  | nil => exact absurd rfl h
  | cons x r => simp [starts]

theorem starts_nil (c : UInt8) : starts [] [c] = false := rfl

theorem pre_snoc {l : List UInt8} (h : l ≠ []) (b : Int) : pre (l ++ [46]) b = ((pre l b).1 ++ [46], (pre l b).2) := by
  have hd : (l ++ [46]).drop 1 = l.drop 1 ++ [46] := by
    cases l with
    | nil => exact absurd rfl h
    | cons x r => rfl
  unfold pre
  rw [starts_snoc h, starts_snoc h, starts_snoc h, hd]
  split
  · rfl
  · split
    · rfl
    · split <;> rfl

theorem pre_ends {l : List UInt8} {c : UInt8} (h : ends l [c] = false) (b : Int) : ends (pre l b).1 [c] = false := by
  unfold pre
  split
  · exact ends_drop h
  · split
    · exact ends_drop h
    · split
      · exact ends_drop h
      · exact h

theorem num_point {r : List UInt8} (h : ends r [46] = false) (b : Int) : (numOf' r b = ([], false) ∧ numOf' (r ++ [46]) b = ([], false)) ∨ ∃ x y, numOf' r b = ([x], true) ∧ numOf' (r ++ [46]) b = ([x, y], true) := by
  have hs : starts (r ++ [46]) [45] = starts r [45] := by
    cases r with
    | nil => rfl
    | cons x t => exact starts_snoc (by simp) _ _
  have hl : (if starts r [45] = true then (r ++ [46]).drop 1 else r ++ [46]) = (if starts r [45] = true then r.drop 1 else r) ++ [46] := by
    split
    · rename_i h1
      cases r with
      | nil => cases h1
      | cons x t => rfl
    · rfl
  have he : ends (if starts r [45] = true then r.drop 1 else r) [46] = false := by
    split
    · exact ends_drop h
    · exact h
  unfold numOf' numW
  simp only [hs, hl]
  generalize (if starts r [45] = true then r.drop 1 else r) = l1 at he ⊢
  have e2 : (l1 ++ [46]).take ((l1 ++ [46]).length - 1) = l1 := by simp
  rw [ends_snoc, he, e2]
  simp only [beq_self_eq_true, if_true, Bool.false_eq_true, if_false]
  cases dfold b l1 0 with
  | none => exact .inl ⟨rfl, rfl⟩
  | some v =>
    by_cases hn : l1 = []
    · subst hn; exact .inl ⟨rfl, rfl⟩
    · simp only [hn, if_false]
      exact .inr ⟨_, _, rfl, rfl⟩

theorem parse_point {l : List UInt8} (h0 : l ≠ []) (h : ends l [46] = false) (hq : quoted l = false) (hq2 : quoted (l ++ [46]) = false) (b : Int) :
    (parse' l b = ([], false) ∧ parse' (l ++ [46]) b = ([], false)) ∨ ∃ x y, parse' l b = ([x], true) ∧ parse' (l ++ [46]) b = ([x, y], true) := by
  unfold parse'
  cases goodB b with
  | false => exact .inl ⟨rfl, rfl⟩
  | true =>
    rw [hq, hq2, pre_snoc h0]
    simp only [if_true, Bool.false_eq_true, if_false]
    exact num_point (pre_ends h b) _

theorem quoted_snoc (l : List UInt8) : quoted (l ++ [46]) = false := by
  unfold quoted
  rw [ends_snoc]
  simp

theorem getD_toNat (l : List UInt8) (i : Nat) (c : UInt8) : (((l.getD i (UInt8.ofNat 0)).toNat : Int) == (c.toNat : Int)) = (l.getD i 0 == c) := by
  have : (UInt8.ofNat 0) = 0 := rfl
  rw [this]
  cases h : l.getD i 0 == c with
  | true => rw [eq_of_beq h]; simp
  | false =>
    rw [beq_eq_false_iff_ne] at h ⊢
    intro e
    exact h (UInt8.toNat_inj.1 (by omega))

theorem ends_getD {l : List UInt8} (h : 1 ≤ l.length) (c : UInt8) : ends l [c] = (l.getD (l.length - 1) 0 == c) := by
  unfold ends
  simp only [List.length_singleton]
  rw [decide_eq_true h, List.drop_eq_getElem_cons (by omega), List.drop_eq_nil_of_le (by omega), List.getD_eq_getElem?_getD, List.getElem?_eq_getElem (by omega)]
  simp

theorem starts_getD {l : List UInt8} (h : 1 ≤ l.length) (c : UInt8) : starts l [c] = (l.getD 0 0 == c) := by
  cases l with
  | nil => simp at h
  | cons x r => simp [starts]

theorem doubles_M1 (l : List UInt8) (h : l.length < 9223372036854775808) : lawDoubles_M1 (bs l) = some (if l.length > 200 ∨ l.length = 0 ∨ ends l [46] = true ∨ quoted l = true then .inl () else .inr ()) := by
  unfold lawDoubles_M1 lawDoubles_M1_t
  have sl : (bs l).size = l.length := rfl
  by_cases h1 : l.length > 200
  · rw [decide_eq_true (by omega), if_pos (.inl h1)]; rfl
  · rw [decide_eq_false (by omega)]
    by_cases h2 : l.length = 0
    · have : ((((bs l).size : Nat) : Int) == 0) = true := by rw [sl, h2]; rfl
      rw [this, if_pos (.inr (.inl h2))]; rfl
    · have : ((((bs l).size : Nat) : Int) == 0) = false := by rw [beq_eq_false_iff_ne]; omega
      rw [this]
      have w : IntKind.wrap IntKind.i64 ((((bs l).size : Nat) : Int) - 1) = ((l.length - 1 : Nat) : Int) := by
        rw [wi, W_of ⟨by omega, by omega⟩]; omega
      rw [w, decide_eq_true (by omega)]
      simp only [cond_true, cond_false, Int.toNat_natCast, bs_data]
      have e46 := getD_toNat l (l.length - 1) 46
      rw [← ends_getD (by omega)] at e46
      have e46' : (((l.getD (l.length - 1) (UInt8.ofNat 0)).toNat : Int) == 46) = ends l [46] := e46
      rw [e46']
      cases he : ends l [46] with
      | true => rw [if_pos (.inr (.inr (.inl rfl)))]; rfl
      | false =>
        simp only [cond_false]
        by_cases h3 : l.length = 3
        · have : ((((bs l).size : Nat) : Int) == 3) = true := by rw [sl, h3]; rfl
          rw [this, decide_eq_true (by omega)]
          have e0 := getD_toNat l 0 39
          rw [← starts_getD (by omega)] at e0
          have e0' : (((l.getD 0 (UInt8.ofNat 0)).toNat : Int) == 39) = starts l [39] := e0
          rw [e0']
          simp only [cond_true]
          cases hs : starts l [39] with
          | false =>
            rw [if_neg (fun h => by
              rcases h with h | h | h | h
              · omega
              · omega
              · cases h
              · unfold quoted at h; rw [hs] at h; simp at h)]; rfl
          | true =>
            rw [decide_eq_true (by omega)]
            have e2 := getD_toNat l 2 39
            have h22 : l.length - 1 = 2 := by omega
            have e3 := ends_getD (l := l) (by omega) 39
            rw [h22] at e3
            rw [← e3] at e2
            have e2' : (((l.getD 2 (UInt8.ofNat 0)).toNat : Int) == 39) = ends l [39] := e2
            rw [e2']
            simp only [cond_true]
            cases hs2 : ends l [39] with
            | false => rw [if_neg (fun h => by
                rcases h with h | h | h | h
                · omega
                · omega
                · cases h
                · unfold quoted at h; rw [hs2] at h; simp at h)]; rfl
            | true => rw [if_pos (by unfold quoted; rw [hs, hs2, decide_eq_true h3]; simp)]; rfl
        · have : ((((bs l).size : Nat) : Int) == 3) = false := by rw [beq_eq_false_iff_ne]; omega
          rw [this, if_neg (fun h => by
            rcases h with h | h | h | h
            · omega
            · omega
            · cases h
            · unfold quoted at h; rw [decide_eq_false h3] at h; simp at h)]; rfl

theorem doubles_M2 (l : List UInt8) : ∃ x, lawDoubles_M2 (bs l) = some x := by
  unfold lawDoubles_M2 lawDoubles_M2_t
  have sl : (bs l).size = l.length := rfl
  by_cases h : l.length = 2
  · have : ((((bs l).size : Nat) : Int) == 2) = true := by rw [sl, h]; rfl
    rw [this, decide_eq_true (by omega)]
    simp only [cond_true]
    cases (((List.getD (bs l).data.toList 0 (UInt8.ofNat 0)).toNat : Int) == 39) with
    | true => exact ⟨_, rfl⟩
    | false => exact ⟨_, rfl⟩
  · have : ((((bs l).size : Nat) : Int) == 2) = false := by rw [beq_eq_false_iff_ne]; omega
    rw [this]; exact ⟨_, rfl⟩

theorem doubles_eq {s : ByteArray} (hs : s.size < 4611686018427387904) (b : Int) : lawDoubles s b = some true := by
  rw [bs_of s]
  have hl : s.data.toList.length < 4611686018427387904 := hs
  generalize s.data.toList = l at hl
  unfold lawDoubles lawDoubles_t
  rw [awake_eq, doubles_M1 l (by omega)]
  simp only [outOf]
  split
  · rfl
  · rename_i hC
    have sl : (bs l).size = l.length := rfl
    have h0 : l ≠ [] := fun e => hC (.inr (.inl (by rw [e]; rfl)))
    have he : ends l [46] = false := by
      cases h : ends l [46] with
      | false => rfl
      | true => exact absurd (.inr (.inr (.inl h))) hC
    have hq : quoted l = false := by
      cases h : quoted l with
      | false => rfl
      | true => exact absurd (.inr (.inr (.inr h))) hC
    simp only [sumOf]
    rw [parsed (by omega) b]
    have h46 : bytesOf [46] = bs [46] := rfl
    rw [h46, bs_append, parsed (by simp; omega) b]
    simp only [outOf]
    rw [decide_eq_false (by omega)]
    obtain ⟨x2, hx2⟩ := doubles_M2 l
    rw [hx2]
    simp only [cond_false, outOf]
    rcases parse_point h0 he hq (quoted_snoc l) b with ⟨e1, e2⟩ | ⟨x, y, e1, e2⟩
    · rw [e1, e2]; cases x2 <;> rfl
    · rw [e1, e2]
      cases x2 with
      | inl _ => rfl
      | inr _ =>
        simp only [sumOf, cond_true, beq_self_eq_true, Bool.not_true, cond_false, List.length_cons, List.length_nil]
        simp

end Go.Proofs.Dbl
