/- Plain facts about what a text's number is. -/
import Derived.Test.YtfmdhcialeddaaaDoorNuPb
namespace Go.Proofs.Dbl
open Go Go.TX Go.Proofs
set_option maxRecDepth 100000
set_option maxHeartbeats 0
set_option linter.unusedVariables false
set_option linter.unusedSimpArgs false

def starts (l p : List UInt8) : Bool := decide (p.length ≤ l.length) && (l.take p.length == p)
def ends (l p : List UInt8) : Bool := decide (p.length ≤ l.length) && (l.drop (l.length - p.length) == p)

theorem hasPre_eq (l p : List UInt8) : hasPre (bs l) (bs p) = some (starts l p) := by
  unfold hasPre hasPre_t starts
  have sl : (bs l).size = l.length := rfl
  have sp : (bs p).size = p.length := rfl
  by_cases h : p.length ≤ l.length
  · rw [decide_eq_true (by omega), decide_eq_true (by omega), decide_eq_true h]
    simp only [cond_true, Int.toNat_natCast, bs_extract, bs_toList, List.drop_zero, Bool.true_and, bs_size]
  · rw [decide_eq_false (show ¬ (((bs l).size : Nat) : Int) ≥ (((bs p).size : Nat) : Int) by omega), decide_eq_false h]
    rfl

theorem hasSuf_eq {l p : List UInt8} (hl : l.length < 9223372036854775808) : hasSuf (bs l) (bs p) = some (ends l p) := by
  unfold hasSuf hasSuf_t ends
  have sl : (bs l).size = l.length := rfl
  have sp : (bs p).size = p.length := rfl
  by_cases h : p.length ≤ l.length
  · have e : IntKind.wrap IntKind.i64 ((((bs l).size : Nat) : Int) - (((bs p).size : Nat) : Int)) = ((l.length - p.length : Nat) : Int) := by
      rw [wi, W_of ⟨by omega, by omega⟩]; omega
    rw [e, decide_eq_true (show (((bs l).size : Nat) : Int) ≥ (((bs p).size : Nat) : Int) by omega), decide_eq_true (by omega), decide_eq_true h]
    simp only [cond_true, Int.toNat_natCast, bs_extract, bs_toList, List.take_length, Bool.true_and, bs_size]
  · rw [decide_eq_false (show ¬ (((bs l).size : Nat) : Int) ≥ (((bs p).size : Nat) : Int) by omega), decide_eq_false h]
    rfl

theorem cutPre_eq (l p : List UInt8) : cutPre (bs l) (bs p) = some (if starts l p = true then (bs (l.drop p.length), true) else (bs l, false)) := by
  unfold cutPre cutPre_t cutPre0 cutPre0_t
  have sl : (bs l).size = l.length := rfl
  have sp : (bs p).size = p.length := rfl
  rw [hasPre_eq]
  simp only [outOf]
  cases h : starts l p with
  | false => rfl
  | true =>
    simp only [starts, Bool.and_eq_true, decide_eq_true_eq] at h
    rw [decide_eq_true (by omega)]
    simp only [Bool.not_true, cond_false, cond_true, Int.toNat_natCast, bs_extract, List.take_length, if_true, bs_size]

theorem cutSuf_eq {l p : List UInt8} (hl : l.length < 9223372036854775808) : cutSuf (bs l) (bs p) = some (if ends l p = true then (bs (l.take (l.length - p.length)), true) else (bs l, false)) := by
  unfold cutSuf cutSuf_t cutSuf0 cutSuf0_t
  have sl : (bs l).size = l.length := rfl
  have sp : (bs p).size = p.length := rfl
  rw [hasSuf_eq hl]
  simp only [outOf]
  cases h : ends l p with
  | false => rfl
  | true =>
    simp only [ends, Bool.and_eq_true, decide_eq_true_eq] at h
    have e : IntKind.wrap IntKind.i64 ((((bs l).size : Nat) : Int) - (((bs p).size : Nat) : Int)) = ((l.length - p.length : Nat) : Int) := by
      rw [wi, W_of ⟨by omega, by omega⟩]; omega
    rw [e, decide_eq_true (by omega)]
    simp only [Bool.not_true, cond_false, cond_true, Int.toNat_natCast, bs_extract, List.drop_zero, if_true]

/-- What is behind a sign of a base, and the base. -/
def pre (l : List UInt8) (b : Int) : List UInt8 × Int :=
  if starts l [35] = true then (l.drop 1, 10) else if starts l [36] = true then (l.drop 1, 16) else if starts l [37] = true then (l.drop 1, 2) else (l, b)

theorem prefix_eq (l : List UInt8) (b : Int) : num_prefix (bs l) b = some (bs (pre l b).1, (pre l b).2) := by
  have p35 : bytesOf [35] = bs [35] := rfl
  have p36 : bytesOf [36] = bs [36] := rfl
  have p37 : bytesOf [37] = bs [37] := rfl
  have loop : num_prefix_L1 (bs l, b, [bytesOf [35], bytesOf [36], bytesOf [37]], 3, 0) =
      (if starts l [35] = true then some (.inl (bs (l.drop 1), 10)) else if starts l [36] = true then some (.inl (bs (l.drop 1), 16)) else if starts l [37] = true then some (.inl (bs (l.drop 1), 2)) else some (.inr (bs l, b))) := by
    have step : ∀ (i : Int) (c : UInt8) (q : Int), (decide (i < 3) = true) → (decide ((0 : Int) ≤ i ∧ i < ((List.length [bytesOf [35], bytesOf [36], bytesOf [37]] : Nat) : Int)) = true) → (decide ((0 : Int) ≤ i ∧ i < (3 : Int)) = true) →
        List.getD [bytesOf [35], bytesOf [36], bytesOf [37]] (Int.toNat i) (bytesOf []) = bs [c] → List.getD [(10 : Int), (16 : Int), (2 : Int)] (Int.toNat i) (0 : Int) = q →
        num_prefix_L1_pass (bs l, b, [bytesOf [35], bytesOf [36], bytesOf [37]], 3, i) = if starts l [c] = true then some (.inr (.inl (bs (l.drop 1), q))) else some (.inl (bs l, b, [bytesOf [35], bytesOf [36], bytesOf [37]], 3, IntKind.wrap .i64 (i + 1))) := by
      intro i c q h1 h2 h3 h4 h5
      unfold num_prefix_L1_pass num_prefix_L1_t
      simp only [h1, h2, h3, h4, h5, cond_true]
      rw [cutPre_eq]
      cases starts l [c] <;> rfl
    unfold num_prefix_L1
    have s0 := step 0 35 10 (by decide) (by decide) (by decide) rfl rfl
    have s1 := step 1 36 16 (by decide) (by decide) (by decide) rfl rfl
    have s2 := step 2 37 2 (by decide) (by decide) (by decide) rfl rfl
    have w1 : IntKind.wrap .i64 ((0:Int) + 1) = 1 := by decide
    have w2 : IntKind.wrap .i64 ((1:Int) + 1) = 2 := by decide
    have w3 : IntKind.wrap .i64 ((2:Int) + 1) = 3 := by decide
    rw [w1] at s0; rw [w2] at s1; rw [w3] at s2
    by_cases h0 : starts l [35] = true
    · rw [if_pos h0] at s0 ⊢; exact runs_out s0
    · rw [if_neg h0] at s0 ⊢
      rw [runs_next s0]
      by_cases h1 : starts l [36] = true
      · rw [if_pos h1] at s1 ⊢; exact runs_out s1
      · rw [if_neg h1] at s1 ⊢
        rw [runs_next s1]
        by_cases h2 : starts l [37] = true
        · rw [if_pos h2] at s2 ⊢; exact runs_out s2
        · rw [if_neg h2] at s2 ⊢
          rw [runs_next s2]
          exact runs_out rfl
  unfold num_prefix num_prefix_t pre
  rw [loop]
  split
  · rfl
  · split
    · rfl
    · split <;> rfl

/-- What a text's number is: behind the sign of a base. -/
def numW (go : List UInt8 → Int → Option Int) (l : List UInt8) (b : Int) : List Int × Bool :=
  let neg := starts l [45]
  let l1 := if neg = true then l.drop 1 else l
  let dot := ends l1 [46]
  let l2 := if dot = true then l1.take (l1.length - 1) else l1
  match go l2 b with
  | none => ([], false)
  | some v => if l2 = [] then ([], false) else
    let w := if neg = true then -v else v
    if dot = true then ([W w, W (w / 18446744073709551616)], true) else ([W w], true)

def numOf (l : List UInt8) (b : Int) : List Int × Bool := numW (fun l b => dgo (bs l) b 0 0) l b

def quoted (l : List UInt8) : Bool := decide (l.length = 3) && (starts l [39] && ends l [39])

def parse (l : List UInt8) (b : Int) : List Int × Bool :=
  if goodB b = true then
    if quoted l = true then ([((l.getD 1 0).toNat : Int)], true) else numOf (pre l b).1 (pre l b).2
  else ([], false)

theorem pre_length (l : List UInt8) (b : Int) : (pre l b).1.length ≤ l.length := by
  unfold pre
  split
  · simp
  · split
    · simp
    · split <;> simp

theorem Parse_eq {l : List UInt8} (hl : l.length < 9223372036854775808) (b : Int) : num_Parse (bs l) b = some (parse l b) := by
  have q39 : bytesOf [39] = bs [39] := rfl
  have q45 : bytesOf [45] = bs [45] := rfl
  have q46 : bytesOf [46] = bs [46] := rfl
  unfold num_Parse num_Parse_t parse
  rw [good_eq]
  simp only [outOf]
  cases hg : goodB b with
  | false => rfl
  | true =>
    simp only [Bool.not_true, cond_false, if_true]
    have m1 : num_Parse_M1 (bs l) = some (if quoted l = true then .inl ([((l.getD 1 0).toNat : Int)], true) else .inr ()) := by
      unfold num_Parse_M1 num_Parse_M1_t quoted hasPre1 hasPre1_t hasSuf1 hasSuf1_t
      rw [q39, hasPre_eq, hasSuf_eq hl]
      have sl : (bs l).size = l.length := rfl
      simp only [outOf]
      by_cases h3 : l.length = 3
      · have : ((((bs l).size : Nat) : Int) == 3) = true := by rw [sl, h3]; rfl
        rw [this, decide_eq_true h3]
        cases h4 : starts l [39] with
        | false => rfl
        | true =>
          cases h5 : ends l [39] with
          | false => rfl
          | true =>
            rw [decide_eq_true (by omega)]
            have := (l.getD 1 (UInt8.ofNat 0)).toNat_lt
            simp only [cond_true, bs_data, Bool.and_self, if_true]
            rw [wi, W_of ⟨by omega, by omega⟩]
            rfl
      · have : ((((bs l).size : Nat) : Int) == 3) = false := by
          rw [beq_eq_false_iff_ne]; omega
        rw [this, decide_eq_false h3]
        rfl
    rw [m1]
    cases hq : quoted l with
    | true => rfl
    | false =>
      simp only [outOf, sumOf, Bool.false_eq_true, if_false]
      rw [prefix_eq]
      simp only [outOf]
      have hp := pre_length l b
      generalize (pre l b).1 = r at hp ⊢
      generalize (pre l b).2 = b'
      rw [q45, cutPre_eq]
      simp only [outOf]
      unfold numOf numW
      have e1 : (if starts r [45] = true then (bs (r.drop 1), true) else (bs r, false)) = (bs (if starts r [45] = true then r.drop 1 else r), starts r [45]) := by
        cases starts r [45] <;> rfl
      simp only [List.length_singleton]
      rw [e1]
      simp only
      have hr1 : (if starts r [45] = true then r.drop 1 else r).length < 9223372036854775808 := by
        split
        · simp; omega
        · omega
      generalize (if starts r [45] = true then r.drop 1 else r) = r1 at hr1 ⊢
      generalize starts r [45] = neg
      rw [q46, cutSuf_eq hr1]
      simp only [List.length_singleton]
      have e2 : (if ends r1 [46] = true then (bs (r1.take (r1.length - 1)), true) else (bs r1, false)) = (bs (if ends r1 [46] = true then r1.take (r1.length - 1) else r1), ends r1 [46]) := by
        cases ends r1 [46] <;> rfl
      rw [e2]
      simp only
      generalize (if ends r1 [46] = true then r1.take (r1.length - 1) else r1) = r2
      generalize ends r1 [46] = dot
      rw [digits_eq]
      cases hd : dgo (bs r2) b' 0 0 with
      | none => rfl
      | some v =>
        simp only
        cases r2 with
        | nil => rfl
        | cons c r3 =>
          have : (!((c :: r3) == [])) = true := rfl
          simp only [this, Bool.not_true, cond_false, reduceCtorEq, if_false]
          unfold num_Parse_M2 num_Parse_M2_t
          cases neg with
          | false => cases dot <;> rfl
          | true =>
            simp only [cond_true, if_true]
            rw [Neg_eq]
            cases dot <;> rfl

end Go.Proofs.Dbl
