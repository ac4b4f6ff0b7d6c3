/- Plain facts: NumForm holds. -/
import Derived.Test.YtfmdhcialeddaaaDoorNuPn
namespace Go.Proofs.Dbl
open Go Go.TX Go.Proofs
set_option maxRecDepth 100000
set_option maxHeartbeats 0
set_option linter.unusedVariables false
set_option linter.unusedSimpArgs false

theorem caps_tight {b : Nat} (hb : 2 ≤ b) : ∀ (k n : Nat), n < 2 ^ (k + 1) → (caps b n).length ≤ k + 1
  | k, n, h => by
    by_cases hn : n < b
    · rw [caps_small hn]; simp
    · rw [caps_big hn hb, List.length_append]
      have hd : n / b ≤ n / 2 := Nat.div_le_div_left hb (by omega)
      match k with
      | 0 => simp at h; omega
      | k + 1 =>
        have e : 2 ^ (k + 1 + 1) = 2 * 2 ^ (k + 1) := Nat.pow_succ'
        have := caps_tight hb k (n / b) (by omega)
        simp; omega

/-- The first digit of a number that is not nought is not nought. -/
theorem caps_first {b : Nat} (hb : 2 ≤ b) : ∀ (m n : Nat), n ≤ m → 1 ≤ n → ∃ v r, caps b n = cap v :: r ∧ 1 ≤ v ∧ v < b
  | m, n, hm, h => by
    by_cases hn : n < b
    · exact ⟨n, [], caps_small hn, h, hn⟩
    · have hq : 1 ≤ n / b := (Nat.one_le_div_iff (by omega)).2 (by omega)
      have hd : n / b < n := Nat.div_lt_self (by omega) (by omega)
      match m with
      | 0 => omega
      | m + 1 =>
        obtain ⟨v, r, e, h1, h2⟩ := caps_first hb m (n / b) (by omega) hq
        exact ⟨v, r ++ [cap (n % b)], by rw [caps_big hn hb, e]; rfl, h1, h2⟩

theorem cap_nought {v : Nat} (h1 : 1 ≤ v) (h2 : v < 36) : cap v ≠ 48 := by
  have h := worth_cap h2
  intro e
  have : worth ((48 : UInt8).toNat : Int) = 0 := by decide
  unfold cap at e
  rw [e, this] at h
  omega

theorem caps_cap {b n : Nat} (h1 : 2 ≤ b) {c : UInt8} (hc : c ∈ caps b n) : ∃ v, v < b ∧ c = cap v := caps_mem h1 hc

theorem bs_at (l : List UInt8) (i : Nat) (h : i < l.length) : List.getD (Array.toList (ByteArray.data (bs l))) i (UInt8.ofNat (nat_lit 0)) = l[i] := by
  show List.getD l i _ = l[i]
  rw [List.getD_eq_getElem?_getD, List.getElem?_eq_getElem h]
  rfl

theorem bs_piece (l : List UInt8) (i : Nat) (h : i < l.length) : (bs l).extract i (i + 1) = bs [l[i]] := by
  rw [bs_extract]
  congr 1
  rw [List.drop_take]
  have : i + 1 - i = 1 := by omega
  rw [this, List.drop_eq_getElem_cons h]
  rfl

theorem form_pass {B : Nat} (b1 : 2 ≤ B) (b2 : B ≤ 36) (n : Int) (s : ByteArray) {l : List UInt8} (hl : l.length ≤ 64) (hc : ∀ c ∈ l, ∃ v, v < B ∧ c = cap v) {i : Nat} (hi : i < l.length) :
    lawForm_L1_pass (n, (B : Int), true, s, bs l, (i : Int)) = some (.inl (n, (B : Int), true, s, bs l, ((i + 1 : Nat) : Int))) := by
  unfold lawForm_L1_pass lawForm_L1_t
  simp only
  rw [bs_size, decide_eq_true (show (i : Int) < (l.length : Int) by omega), decide_eq_true (show (0 : Int) ≤ i ∧ (i : Int) < (l.length : Int) by omega)]
  simp only [cond_true, Int.toNat_natCast]
  rw [bs_at l i hi]
  obtain ⟨v, hv, ev⟩ := hc l[i] (List.getElem_mem hi)
  have hw : IntKind.wrap IntKind.i64 ((l[i].toNat : Nat) : Int) = ((l[i].toNat : Nat) : Int) := by
    have := l[i].toNat_lt
    rw [wi, W_of ⟨by omega, by omega⟩]
  have hcell : Cell ((l[i].toNat : Nat) : Int) := by
    have := l[i].toNat_lt
    exact ⟨by omega, by omega⟩
  have hd : dig ((l[i].toNat : Nat) : Int) (B : Int) = some (v : Int) := by rw [ev]; exact dig_cap b1 b2 hv
  rw [hw, Digit_eq hcell, hd]
  simp only [outOf, Bool.not_true, cond_false]
  rw [Sign_eq (by omega)]
  have wi' : IntKind.wrap IntKind.i64 ((i : Int) + 1) = ((i + 1 : Nat) : Int) := by rw [wi, W_of ⟨by omega, by omega⟩]; omega
  simp only [outOf]
  rw [wi', decide_eq_true (show (0 : Int) ≤ i ∧ (i : Int) ≤ ((i + 1 : Nat) : Int) ∧ ((i + 1 : Nat) : Int) ≤ (l.length : Int) by omega)]
  simp only [cond_true, Int.toNat_natCast]
  rw [bs_piece l i hi, ev, same_bs]
  rfl

theorem form_loop {B : Nat} (b1 : 2 ≤ B) (b2 : B ≤ 36) (n : Int) (s : ByteArray) {l : List UInt8} (hl : l.length ≤ 64) (hc : ∀ c ∈ l, ∃ v, v < B ∧ c = cap v) :
    lawForm_L1 (n, (B : Int), true, s, bs l, (0 : Int)) = some (.inr (n, (B : Int), true, s)) := by
  unfold lawForm_L1
  refine runs_all (fun i : Nat => ((n, (B : Int), true, s, bs l, (i : Int)) : lawForm_L1_D)) l.length (fun i hi => form_pass b1 b2 n s hl hc hi) ?_
  unfold lawForm_L1_pass lawForm_L1_t
  simp only
  rw [bs_size, decide_eq_false (by omega)]
  rfl

theorem form_M1 (b : Int) : lawForm_M1 b = some (if goodB b = true then .inr () else .inl ()) := by
  unfold lawForm_M1 lawForm_M1_t
  by_cases h : b < 2
  · rw [decide_eq_true h, if_neg (by unfold goodB; rw [decide_eq_true_eq]; omega)]; rfl
  · rw [decide_eq_false h]
    by_cases h2 : b > 36
    · rw [decide_eq_true h2, if_neg (by unfold goodB; rw [decide_eq_true_eq]; omega)]; rfl
    · rw [decide_eq_false h2, if_pos (by unfold goodB; rw [decide_eq_true_eq]; omega)]; rfl

theorem form_M2 {n : Int} {l : List UInt8} : lawForm_M2 n (bs ((if n < 0 then [45] else []) ++ l)) (bs ((if n < 0 then [45] else []) ++ l)) = some (bs l) := by
  unfold lawForm_M2 lawForm_M2_t
  by_cases h : n < 0
  · rw [decide_eq_true h, if_pos h, bs_size]
    have hs : (([45] ++ l : List UInt8).length : Int) = (l.length : Int) + 1 := by simp
    rw [decide_eq_true (by omega), decide_eq_true (by omega)]
    simp only [cond_true, Int.toNat_natCast]
    rw [bs_extract]
    have : List.drop 1 (List.take ([45] ++ l : List UInt8).length ([45] ++ l)) = l := by rw [List.take_length]; rfl
    rw [this]
  · rw [decide_eq_false h, if_neg h]; rfl

theorem form_M3 {n : Int} {l : List UInt8} {B : Nat} (b2 : B ≤ 36) (hl : l.length ≤ 64) (h0 : l ≠ []) (hp : ∀ x ∈ l, Plain x) (h1 : n ≠ 0 → ∃ v r, l = cap v :: r ∧ 1 ≤ v ∧ v < B) :
    lawForm_M3 n (bs ((if n < 0 then [45] else []) ++ l)) (bs l) = some (.inr ()) := by
  unfold lawForm_M3 lawForm_M3_t
  cases l with
  | nil => exact absurd rfl h0
  | cons x r =>
    rw [bs_size, bs_size]
    have z1 : (((x :: r).length : Int) == 0) = false := by rw [beq_eq_false_iff_ne]; simp; omega
    rw [z1, decide_eq_false (show ¬ ((x :: r).length : Int) > 64 by omega), decide_eq_true (show (0 : Int) ≤ 0 ∧ (0 : Int) < ((x :: r).length : Int) by simp)]
    have z2 : (0 : Int) ≤ 0 ∧ (0 : Int) < ((((if n < 0 then [45] else []) ++ x :: r : List UInt8).length : Nat) : Int) := by
      rw [List.length_append]; simp; omega
    rw [decide_eq_true z2]
    simp only [cond_true, cond_false]
    have p45 := (hp x (List.mem_cons_self)).2.2.2.2.1
    have hh : ((UInt8.toNat (List.getD (Array.toList (ByteArray.data (bs ((if n < 0 then [45] else []) ++ x :: r)))) 0 (UInt8.ofNat (nat_lit 0))) : Int) == 45) = decide (n < 0) := by
      by_cases h : n < 0
      · rw [if_pos h, decide_eq_true h]; rfl
      · rw [if_neg h, decide_eq_false h]
        show ((x.toNat : Int) == 45) = false
        rw [beq_eq_false_iff_ne]
        intro e
        apply p45
        apply UInt8.toNat.inj
        show x.toNat = 45
        omega
    rw [hh]
    have hself : ∀ b : Bool, (!b == b) = false := by decide
    rw [hself]
    simp only [cond_false]
    have hx : List.getD (Array.toList (ByteArray.data (bs (x :: r)))) 0 (UInt8.ofNat (nat_lit 0)) = x := rfl
    rw [hx]
    by_cases hn : n = 0
    · subst hn
      cases (((x.toNat : Nat) : Int) == 48) <;> rfl
    · obtain ⟨v, r', e, v1, v2⟩ := h1 hn
      have hne : (((x.toNat : Nat) : Int) == 48) = false := by
        rw [beq_eq_false_iff_ne]
        intro e2
        have hx2 : x = cap v := by injection e
        apply cap_nought v1 (show v < 36 by omega)
        rw [← hx2]
        apply UInt8.toNat.inj
        show x.toNat = 48
        omega
      rw [hne]; rfl

theorem form_eq {n b : Int} (hn : Cell n) : lawForm n b = some true := by
  unfold lawForm lawForm_t
  rw [awake_eq]
  simp only [outOf]
  rw [form_M1]
  cases hb : goodB b with
  | false => rfl
  | true =>
    simp only [if_true, sumOf]
    obtain ⟨g1, g2⟩ := of_decide_eq_true hb
    obtain ⟨B, rfl⟩ : ∃ B : Nat, b = B := ⟨b.toNat, by omega⟩
    have b1 : 2 ≤ B := by omega
    have b2 : B ≤ 36 := by omega
    have hn' := hn
    unfold Cell at hn'
    have hlen : (caps B n.natAbs).length ≤ 64 := caps_tight b1 63 n.natAbs (by rw [two64]; omega)
    rw [Text_eq b1 b2 hn]
    simp only [outOf]
    rw [form_M2]
    simp only [outOf]
    rw [form_M3 b2 hlen (caps_ne _ _) (caps_plain b1 b2) (fun h => caps_first b1 _ n.natAbs (Nat.le_refl _) (by omega))]
    simp only [outOf, sumOf]
    rw [form_loop b1 b2 n _ hlen (fun c hc => caps_cap b1 hc)]
    simp only [outOf, sumOf, cond_true]
    have hof : dbl_Of n = (n, n / 9223372036854775808) := by unfold dbl_Of; rw [fdiv_lit (by decide)]
    have hS : S n (n / 9223372036854775808) = n := by unfold S; omega
    have hc2 : Cell (n / 9223372036854775808) := ⟨by omega, by omega⟩
    rw [hof, DText_eq b1 b2 hn hc2, hS]
    simp only [outOf]
    rw [same_bs]
    simp only [cond_true]
    by_cases h : n < 0
    · rw [decide_eq_true h]; rfl
    · rw [decide_eq_false h, UText_eq b1 b2 n, if_neg h, show (n % 18446744073709551616).toNat = n.natAbs by omega, List.nil_append]
      simp only [outOf, cond_false]
      rw [same_bs]

end Go.Proofs.Dbl
