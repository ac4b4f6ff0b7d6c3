/- NumBad: the plain law. -/
import Derived.Test.YtfmdhcialeddaaaDoorNuPg
namespace Go.Proofs.Dbl
open Go Go.TX Go.Proofs
set_option maxRecDepth 100000
set_option maxHeartbeats 0
set_option linter.unusedVariables false
set_option linter.unusedSimpArgs false

theorem worth_cap {v : Nat} (h : v < 36) : worth ((Lib.upperB (dch v)).toNat : Int) = (v : Int) := by
  have : ∀ v : Fin 36, worth ((Lib.upperB (dch v.val)).toNat : Int) = (v.val : Int) := by decide +kernel
  exact this ⟨v, h⟩

theorem dig_cap {b v : Nat} (h1 : 2 ≤ b) (h2 : b ≤ 36) (h : v < b) : dig ((Lib.upperB (dch v)).toNat : Int) (b : Int) = some (v : Int) := by
  unfold dig
  rw [worth_cap (by omega), if_pos ⟨decide_eq_true (by omega), by omega, by omega⟩]

theorem digs_mem {b : Nat} (h1 : 2 ≤ b) : ∀ (n : Nat), ∀ c ∈ digs b n, ∃ v, v < b ∧ c = dch v := by
  intro n
  induction n using Nat.strongRecOn with
  | ind n ih =>
    intro c hc
    by_cases h : n < b
    · rw [digs_small h, List.mem_singleton] at hc; exact ⟨n, h, hc⟩
    · rw [digs_big h h1] at hc
      rcases List.mem_append.1 hc with h3 | h3
      · exact ih _ (Nat.div_lt_self (by omega) (by omega)) c h3
      · rw [List.mem_singleton] at h3; exact ⟨n % b, Nat.mod_lt _ (by omega), h3⟩

theorem caps_mem {b n : Nat} (h1 : 2 ≤ b) {c : UInt8} (hc : c ∈ caps b n) : ∃ v, v < b ∧ c = Lib.upperB (dch v) := by
  unfold caps Lib.toUpperA at hc
  obtain ⟨x, h3, rfl⟩ := List.mem_map.1 hc
  obtain ⟨v, h4, rfl⟩ := digs_mem h1 n x h3
  exact ⟨v, h4, rfl⟩

theorem caps_worth {b n : Nat} (h1 : 2 ≤ b) (h2 : b ≤ 36) {c : UInt8} (hc : c ∈ caps b n) : 0 ≤ worth (c.toNat : Int) := by
  obtain ⟨v, h3, rfl⟩ := caps_mem h1 hc
  rw [worth_cap (by omega)]; omega

theorem starts_mem {l : List UInt8} {q : UInt8} (h : starts l [q] = true) : q ∈ l := by
  cases l with
  | nil => cases h
  | cons x r =>
    simp [starts] at h
    subst h; simp

theorem ends_mem {l : List UInt8} {q : UInt8} (h : ends l [q] = true) : q ∈ l := by
  simp only [ends, List.length_singleton, Bool.and_eq_true, decide_eq_true_eq, beq_iff_eq] at h
  have : q ∈ l.drop (l.length - 1) := by rw [h.2]; simp
  exact List.mem_of_mem_drop this

theorem dfold_none {b : Int} {c : UInt8} (hd : dig (c.toNat : Int) b = none) : ∀ (l : List UInt8) (v : Int), c ∈ l → dfold b l v = none
  | x :: r, v, h => by
    unfold dfold
    rcases List.mem_cons.1 h with rfl | h
    · rw [hd]
    · cases hx : dig (x.toNat : Int) b with
      | none => rfl
      | some y => exact dfold_none hd r _ h

/-- A text of plain signs, one of them no digit, is no number. -/
theorem parse_bad {t : List UInt8} {b : Int} {c : UInt8} (hc : c ∈ t) (hd : dig (c.toNat : Int) b = none) (hp : ∀ x ∈ t, x ≠ 35 ∧ x ≠ 36 ∧ x ≠ 37 ∧ x ≠ 39 ∧ x ≠ 45 ∧ x ≠ 46) : parse' t b = ([], false) := by
  have st : ∀ q : UInt8, (q = 35 ∨ q = 36 ∨ q = 37 ∨ q = 39 ∨ q = 45 ∨ q = 46) → starts t [q] = false ∧ ends t [q] = false := by
    intro q hq
    have hn : q ∉ t := fun hm => by
      have := hp q hm
      rcases hq with h | h | h | h | h | h
      · exact this.1 h
      · exact this.2.1 h
      · exact this.2.2.1 h
      · exact this.2.2.2.1 h
      · exact this.2.2.2.2.1 h
      · exact this.2.2.2.2.2 h
    refine ⟨?_, ?_⟩
    · cases h : starts t [q] with
      | false => rfl
      | true => exact absurd (starts_mem h) hn
    · cases h : ends t [q] with
      | false => rfl
      | true => exact absurd (ends_mem h) hn
  unfold parse'
  cases goodB b with
  | false => rfl
  | true =>
    have hq : quoted t = false := by unfold quoted; rw [(st 39 (by simp)).1]; simp
    have hpre : pre t b = (t, b) := by
      unfold pre
      rw [(st 35 (by simp)).1, (st 36 (by simp)).1, (st 37 (by simp)).1]
      rfl
    rw [hq, hpre]
    simp only [if_true, Bool.false_eq_true, if_false]
    unfold numOf' numW
    rw [(st 45 (by simp)).1]
    simp only [Bool.false_eq_true, if_false]
    rw [(st 46 (by simp)).2]
    simp only [Bool.false_eq_true, if_false]
    rw [dfold_none hd t 0 hc]

theorem and_low (x : Int) : 0 ≤ ibits .and .i64 x 65535 ∧ ibits .and .i64 x 65535 ≤ 65535 := by
  rw [ibits_def]
  show 0 ≤ IntKind.wrap .i64 (((BitVec.ofInt 64 x &&& BitVec.ofInt 64 65535).toNat : Nat) : Int) ∧ IntKind.wrap .i64 (((BitVec.ofInt 64 x &&& BitVec.ofInt 64 65535).toNat : Nat) : Int) ≤ 65535
  have h : (BitVec.ofInt 64 x &&& BitVec.ofInt 64 65535).toNat ≤ 65535 := by
    rw [BitVec.toNat_and]
    have : (BitVec.ofInt 64 65535).toNat = 65535 := by decide
    rw [this]
    exact Nat.and_le_right
  rw [wi, W_of ⟨by omega, by omega⟩]
  omega

theorem strOf_one {c : Int} (h0 : 0 ≤ c) (h1 : c ≤ 255) : strOf [c] = bs [UInt8.ofNat c.toNat] := rfl

theorem bad_empty (b : Int) : parse' [] b = ([], false) := by
  unfold parse'
  cases goodB b <;> rfl
theorem bad_minus (b : Int) : parse' [45] b = ([], false) := by
  unfold parse'
  cases goodB b <;> rfl
theorem bad_point (b : Int) : parse' [46] b = ([], false) := by
  unfold parse'
  cases goodB b <;> rfl
theorem bad_dollar (b : Int) : parse' [36] b = ([], false) := by
  unfold parse'
  cases goodB b <;> rfl

theorem bad_eq {n b c k : Int} (hc0 : 0 ≤ c) (hc1 : c ≤ 255) : lawBad n b c k = some true := by
  unfold lawBad lawBad_t
  rw [awake_eq]
  simp only [outOf]
  by_cases hb : 2 ≤ b ∧ b ≤ 36
  · have m1 : lawBad_M1 b = some (.inr ()) := by
      unfold lawBad_M1 lawBad_M1_t
      rw [decide_eq_false (by omega), decide_eq_false (by omega)]; rfl
    rw [m1]
    simp only [outOf, sumOf]
    obtain ⟨B, rfl⟩ : ∃ B : Nat, b = (B : Int) := ⟨b.toNat, by omega⟩
    have hB1 : 2 ≤ B := by omega
    have hB2 : B ≤ 36 := by omega
    rw [UText_eq hB1 hB2, wi, W_of (show Cell c from ⟨by omega, by omega⟩), Digit_eq (show Cell c from ⟨by omega, by omega⟩)]
    simp only [outOf]
    have hmem : ∀ x ∈ caps B (n % 18446744073709551616).toNat, 0 ≤ worth (x.toNat : Int) := fun x hx => caps_worth hB1 hB2 hx
    have hlen : (caps B (n % 18446744073709551616).toNat).length ≤ 65 := by
      unfold caps Lib.toUpperA
      rw [List.length_map]
      exact digs_length B 64 _ (by omega)
    generalize caps B (n % 18446744073709551616).toNat = s at hmem hlen
    cases hd : dig c (B : Int) with
    | some v =>
      have m2 : ∀ s10 : ByteArray, lawBad_M2 c s10 true = some (.inl ()) := fun _ => rfl
      simp only
      rw [m2]
    | none =>
      simp only
      have m2 : lawBad_M2 c (bs s) false = some (.inl ()) ∨ (lawBad_M2 c (bs s) false = some (.inr ()) ∧ c ≠ 45 ∧ c ≠ 46 ∧ c ≠ 35 ∧ c ≠ 36 ∧ c ≠ 37 ∧ c ≠ 39) := by
        unfold lawBad_M2 lawBad_M2_t
        simp only [cond_false]
        cases h0 : ((((bs s).size : Nat) : Int) == 0) with
        | true => exact .inl rfl
        | false =>
          cases h1 : (c == 45) with
          | true => exact .inl rfl
          | false =>
            cases h2 : (c == 46) with
            | true => exact .inl rfl
            | false =>
              cases h3 : (c == 35) with
              | true => exact .inl rfl
              | false =>
                cases h4 : (c == 36) with
                | true => exact .inl rfl
                | false =>
                  cases h5 : (c == 37) with
                  | true => exact .inl rfl
                  | false =>
                    cases h6 : (c == 39) with
                    | true => exact .inl rfl
                    | false =>
                      simp only [beq_eq_false_iff_ne] at h1 h2 h3 h4 h5 h6
                      exact .inr ⟨rfl, h1, h2, h3, h4, h5, h6⟩
      rcases m2 with m2 | ⟨m2, hne⟩
      · rw [m2]
      · rw [m2]
        simp only [outOf, sumOf]
        have sl : (bs s).size = s.length := rfl
        have w : IntKind.wrap IntKind.i64 ((((bs s).size : Nat) : Int) + 1) = (s.length : Int) + 1 := by
          rw [wi, W_of ⟨by omega, by omega⟩]; omega
        obtain ⟨a1, a2⟩ := and_low k
        obtain ⟨at_, hat⟩ : ∃ at_ : Nat, Int.tmod (ibits BinOp.and IntKind.i64 k 65535) ((s.length : Int) + 1) = (at_ : Int) ∧ at_ ≤ s.length := by
          rw [Int.tmod_eq_emod_of_nonneg a1]
          have h1 := Int.emod_nonneg (ibits BinOp.and IntKind.i64 k 65535) (b := (s.length : Int) + 1) (by omega)
          have h2 := Int.emod_lt_of_pos (ibits BinOp.and IntKind.i64 k 65535) (b := (s.length : Int) + 1) (by omega)
          exact ⟨(ibits BinOp.and IntKind.i64 k 65535 % ((s.length : Int) + 1)).toNat, by omega, by omega⟩
        rw [w, hat.1, strOf_one hc0 hc1]
        simp only [Int.toNat_natCast, bs_extract, List.drop_zero, bs_append]
        have e0 : List.take (bs s).size s = s := by rw [sl, List.take_length]
        have hne' : UInt8.ofNat c.toNat ≠ 35 ∧ UInt8.ofNat c.toNat ≠ 36 ∧ UInt8.ofNat c.toNat ≠ 37 ∧ UInt8.ofNat c.toNat ≠ 39 ∧ UInt8.ofNat c.toNat ≠ 45 ∧ UInt8.ofNat c.toNat ≠ 46 := by
          have hv : (UInt8.ofNat c.toNat).toNat = c.toNat := by simp; omega
          refine ⟨?_, ?_, ?_, ?_, ?_, ?_⟩ <;> (intro h; rw [h] at hv; simp at hv; omega)
        have hcv : (((UInt8.ofNat c.toNat).toNat : Nat) : Int) = c := by
          have : (UInt8.ofNat c.toNat).toNat = c.toNat := by simp; omega
          rw [this]; omega
        have hbad : parse' (s.take at_ ++ [UInt8.ofNat c.toNat] ++ s.drop at_) (B : Int) = ([], false) := by
          refine parse_bad (c := UInt8.ofNat c.toNat) (by simp) (by rw [hcv]; exact hd) fun x hx => ?_
          have hx' : x ∈ s ∨ x = UInt8.ofNat c.toNat := by
            simp only [List.mem_append, List.mem_singleton] at hx
            rcases hx with (h | h) | h
            · exact .inl (List.mem_of_mem_take h)
            · exact .inr h
            · exact .inl (List.mem_of_mem_drop h)
          rcases hx' with h | h
          · have hw := hmem x h
            refine ⟨?_, ?_, ?_, ?_, ?_, ?_⟩ <;> (rintro rfl; revert hw; decide)
          · rw [h]; exact hne'
        simp only [e0]
        have l1 : (bs (s.take at_)).size + (bs [UInt8.ofNat c.toNat]).size ≤ 66 := by
          simp only [bs_size, List.length_take, List.length_singleton]; omega
        have l2 : (bs (s.take at_ ++ [UInt8.ofNat c.toNat])).size + (bs (s.drop at_)).size ≤ 200 := by
          simp only [bs_size, List.length_append, List.length_take, List.length_singleton, List.length_drop]; omega
        rw [decide_eq_false (by omega), decide_eq_true (by omega), decide_eq_false (by omega), decide_eq_true (by omega), decide_eq_false (by omega)]
        simp only [cond_true, cond_false]
        have p1 : num_Parse (bs (s.take at_ ++ [UInt8.ofNat c.toNat] ++ s.drop at_)) (B : Int) = some ([], false) := by
          rw [parsed (by simp only [List.length_append, List.length_take, List.length_singleton, List.length_drop]; omega), hbad]
        have p2 : num_Parse (bytesOf []) (B : Int) = some ([], false) := by rw [bytesOf_bs, parsed (by decide)]; exact congrArg some (bad_empty _)
        have p3 : num_Parse (bytesOf [45]) (B : Int) = some ([], false) := by rw [bytesOf_bs, parsed (by decide)]; exact congrArg some (bad_minus _)
        have p4 : num_Parse (bytesOf [46]) (B : Int) = some ([], false) := by rw [bytesOf_bs, parsed (by decide)]; exact congrArg some (bad_point _)
        have p5 : num_Parse (bytesOf [36]) (B : Int) = some ([], false) := by rw [bytesOf_bs, parsed (by decide)]; exact congrArg some (bad_dollar _)
        rw [p1, p2, p3, p4, p5]
        rfl
  · have m1 : lawBad_M1 b = some (.inl ()) := by
      unfold lawBad_M1 lawBad_M1_t
      by_cases h : b < 2
      · rw [decide_eq_true h]; rfl
      · rw [decide_eq_false h, decide_eq_true (by omega)]; rfl
    rw [m1]
    rfl

end Go.Proofs.Dbl
