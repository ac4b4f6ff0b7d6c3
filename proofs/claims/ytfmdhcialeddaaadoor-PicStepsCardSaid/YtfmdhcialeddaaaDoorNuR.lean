/- Plain facts about bytes: cells as eight of them. -/
import Derived.Test.YtfmdhcialeddaaaDoorNuQ
import Derived.Test.YtfmdhcialeddaaaDoorNuXI
import Derived.Test.YtfmdhcialeddaaaDoorNuXJ
namespace Go.Proofs.Dbl
open Go Go.TX Go.Proofs
set_option maxRecDepth 100000
set_option maxHeartbeats 0
set_option linter.unusedVariables false
set_option linter.unusedSimpArgs false
/-- Bytes. -/
def Bytes (m : List Int) : Prop := ∀ x ∈ m, 0 ≤ x ∧ x < 256
/-- The number of some bytes, the lowest first. -/
def val : List Int → Int
  | [] => 0
  | c :: r => c + 256 * val r
theorem Bytes.tail {c : Int} {m : List Int} (h : Bytes (c :: m)) : Bytes m := fun x hx => h x (List.mem_cons_of_mem _ hx)
theorem Bytes.take {m : List Int} (h : Bytes m) (n : Nat) : Bytes (m.take n) := fun x hx => h x (List.mem_of_mem_take hx)
theorem Bytes.drop {m : List Int} (h : Bytes m) (n : Nat) : Bytes (m.drop n) := fun x hx => h x (List.mem_of_mem_drop hx)
theorem Bytes.append {m l : List Int} (h : Bytes m) (k : Bytes l) : Bytes (m ++ l) := fun x hx => (List.mem_append.1 hx).elim (h x) (k x)
/-- Other bytes at a place. -/
def put (m : List Int) (a : Nat) (l : List Int) : List Int := m.take a ++ l ++ m.drop (a + l.length)
theorem put_length {m l : List Int} {a : Nat} (h : a + l.length ≤ m.length) : (put m a l).length = m.length := by
  unfold put; simp only [List.length_append, List.length_take, List.length_drop]; omega
theorem Bytes.put {m l : List Int} (h : Bytes m) (k : Bytes l) (a : Nat) : Bytes (put m a l) := ((h.take a).append k).append (h.drop _)
theorem put_get {m l : List Int} {a : Nat} (h : a + l.length ≤ m.length) (i : Nat) : (put m a l)[i]? = if a ≤ i ∧ i < a + l.length then l[i - a]? else m[i]? := by
  unfold Go.Proofs.Dbl.put
  by_cases h1 : i < a
  · rw [if_neg (by omega), List.append_assoc, List.getElem?_append_left (by rw [List.length_take]; omega), List.getElem?_take_of_lt h1]
  · rw [List.append_assoc, List.getElem?_append_right (by rw [List.length_take]; omega), List.length_take, Nat.min_eq_left (by omega)]
    by_cases h2 : i < a + l.length
    · rw [if_pos ⟨by omega, h2⟩, List.getElem?_append_left (by omega)]
    · rw [if_neg (by omega), List.getElem?_append_right (by omega), List.getElem?_drop]
      congr 1; omega
/-- A cell's bytes. -/
def word (x : Int) : List Int := [x % 256, x / 256 % 256, x / 65536 % 256, x / 16777216 % 256, x / 4294967296 % 256, x / 1099511627776 % 256, x / 281474976710656 % 256, x / 72057594037927936 % 256]
theorem word_length (x : Int) : (word x).length = 8 := rfl
theorem word_bytes (x : Int) : Bytes (word x) := fun c hc => by
  simp only [word, List.mem_cons, List.not_mem_nil, or_false] at hc
  rcases hc with rfl | rfl | rfl | rfl | rfl | rfl | rfl | rfl <;> omega
theorem word_mod (x : Int) : word (x % 18446744073709551616) = word x := by
  unfold word
  have e : ∀ a b c d e f g h a' b' c' d' e' f' g' h' : Int, a = a' → b = b' → c = c' → d = d' → e = e' → f = f' → g = g' → h = h' → [a, b, c, d, e, f, g, h] = [a', b', c', d', e', f', g', h'] := by
    intros; subst_vars; rfl
  apply e <;> omega
/-- May a cell lie there? -/
def slot (m : List Int) (a : Int) : Int := if 0 ≤ a ∧ a + 8 ≤ m.length then (if a % 8 = 0 then 0 else -23) else -9
/-- The cell at a place. -/
def cellAt (m : List Int) (a : Nat) : Int := W (val ((m.drop a).take 8))
end Go.Proofs.Dbl

/- Plain facts: what the memory's functions do. -/
namespace Go.Proofs.Dbl
open Go Go.TX Go.Proofs
set_option maxRecDepth 100000
set_option maxHeartbeats 0
set_option linter.unusedVariables false
set_option linter.unusedSimpArgs false
/-- Are so many bytes there? -/
def spanB (m : List Int) (a n : Int) : Bool := decide (0 ≤ a ∧ 0 ≤ n ∧ a ≤ m.length ∧ n ≤ m.length - a)
theorem span_eq {m : List Int} (hm : m.length ≤ 2147483648) {a n : Int} (ha : Cell a) (hn : Cell n) :
    mem_span m a n = some (if spanB m a n = true then ((m.drop a.toNat).take n.toNat, true) else ([], false)) := by
  unfold Cell at ha hn
  unfold mem_span mem_span_t spanB
  by_cases h1 : a < 0
  · rw [decide_eq_true h1, if_neg (by rw [decide_eq_true_eq]; omega)]; rfl
  · rw [decide_eq_false h1]
    by_cases h2 : n < 0
    · rw [decide_eq_true h2, if_neg (by rw [decide_eq_true_eq]; omega)]; rfl
    · rw [decide_eq_false h2]
      by_cases h3 : a > m.length
      · rw [decide_eq_true h3, if_neg (by rw [decide_eq_true_eq]; omega)]; rfl
      · rw [decide_eq_false h3]
        have w : IntKind.wrap IntKind.i64 ((m.length : Int) - a) = (m.length : Int) - a := by rw [wi, W_of ⟨by omega, by omega⟩]
        rw [w]
        by_cases h4 : n > (m.length : Int) - a
        · rw [decide_eq_true h4, if_neg (by rw [decide_eq_true_eq]; omega)]; rfl
        · have w2 : IntKind.wrap IntKind.i64 (a + n) = a + n := by rw [wi, W_of ⟨by omega, by omega⟩]
          rw [decide_eq_false h4, w2, decide_eq_true (show 0 ≤ a ∧ a ≤ a + n ∧ a + n ≤ a + n ∧ a + n ≤ (m.length : Int) by omega), if_pos (by rw [decide_eq_true_eq]; omega)]
          have : Int.toNat (a + n) - Int.toNat a = n.toNat := by omega
          rw [this]; rfl
theorem and_not7 {a : Int} (h0 : 0 ≤ a) (h1 : a ≤ 4294967296) : ibits .andNot .i64 a 7 = a - a % 8 := by
  rw [ibits_def]
  show IntKind.wrap .i64 (((BitVec.ofInt 64 a &&& ~~~ BitVec.ofInt 64 7).toNat : Nat) : Int) = _
  obtain ⟨n, rfl⟩ : ∃ n : Nat, a = n := ⟨a.toNat, by omega⟩
  have e : (BitVec.ofInt 64 (n : Int) &&& ~~~ BitVec.ofInt 64 7).toNat = n - n % 8 := by
    have h7 : (~~~ BitVec.ofInt 64 7 : BitVec 64) = BitVec.ofNat 64 (2 ^ 64 - 8) := by decide
    have hn : (BitVec.ofInt 64 (n : Int)) = BitVec.ofNat 64 n := rfl
    rw [h7, hn, BitVec.toNat_and, BitVec.toNat_ofNat, BitVec.toNat_ofNat, Nat.mod_eq_of_lt (by omega), Nat.mod_eq_of_lt (by omega)]
    have hs : n - n % 8 = (n >>> 3) <<< 3 := by
      rw [Nat.shiftRight_eq_div_pow, Nat.shiftLeft_eq]; omega
    rw [hs]
    apply Nat.eq_of_testBit_eq
    intro i
    rw [Nat.testBit_and, Nat.testBit_shiftLeft, Nat.testBit_shiftRight]
    have hc : (2 ^ 64 - 8 : Nat) = (2 ^ 61 - 1) <<< 3 := by decide
    rw [hc, Nat.testBit_shiftLeft, Nat.testBit_two_pow_sub_one]
    by_cases hi : 3 ≤ i
    · rw [show 3 + (i - 3) = i by omega]
      by_cases h2 : i - 3 < 61
      · simp [hi, h2]
      · have : n.testBit i = false := Nat.testBit_lt_two_pow (Nat.lt_of_lt_of_le (show n < 2 ^ 33 by omega) (Nat.pow_le_pow_right (by omega) (by omega)))
        simp [this]
    · simp [hi]
  rw [e, wi, W_of ⟨by omega, by omega⟩]
  omega
theorem aligned_eq {a : Int} (h0 : 0 ≤ a) (h1 : a ≤ 2147483648) : (a != cell_Aligned a) = !(decide (a % 8 = 0)) := by
  unfold cell_Aligned
  have w1 : IntKind.wrap IntKind.i64 (a + 8) = a + 8 := by rw [wi, W_of ⟨by omega, by omega⟩]
  have w2 : IntKind.wrap IntKind.i64 (a + 8 - 1) = a + 7 := by rw [wi, W_of ⟨by omega, by omega⟩]; omega
  rw [w1, w2, and_not7 (by omega) (by omega)]
  by_cases h : a % 8 = 0
  · rw [decide_eq_true h, bne_eq_false_iff_eq.2 (by omega)]; rfl
  · rw [decide_eq_false h, bne_iff_ne.2 (by omega)]; rfl
theorem slot_eq {m : List Int} (hm : m.length ≤ 2147483648) {a : Int} (ha : Cell a) :
    mem_slot m a = some (if slot m a = 0 then ((m.drop a.toNat).take 8, 0) else ([], slot m a)) := by
  unfold mem_slot mem_slot_t
  rw [span_eq hm ha ⟨by decide, by decide⟩]
  unfold slot spanB
  simp only [outOf]
  by_cases h : 0 ≤ a ∧ a + 8 ≤ m.length
  · rw [if_pos (show decide (0 ≤ a ∧ 0 ≤ (8 : Int) ∧ a ≤ (m.length : Int) ∧ (8 : Int) ≤ (m.length : Int) - a) = true by rw [decide_eq_true_eq]; omega), if_pos h]
    simp only [Bool.not_true, cond_false]
    rw [aligned_eq h.1 (by omega)]
    by_cases h8 : a % 8 = 0
    · rw [decide_eq_true h8, if_pos h8]; rfl
    · rw [decide_eq_false h8, if_neg h8]; rfl
  · rw [if_neg (show ¬ decide (0 ≤ a ∧ 0 ≤ (8 : Int) ∧ a ≤ (m.length : Int) ∧ (8 : Int) ≤ (m.length : Int) - a) = true by rw [decide_eq_true_eq]; omega), if_neg h]
    rfl
theorem slot_zero {m : List Int} {a : Int} (h : slot m a = 0) : 0 ≤ a ∧ a + 8 ≤ m.length ∧ a % 8 = 0 := by
  unfold slot at h
  split at h
  · split at h
    · omega
    · omega
  · omega
theorem clone_eq {m : List Int} (h0 : m ≠ []) (hm : m.length ≤ 2147483648) : bytes_Clone m = some (m.length, m) := by
  unfold bytes_Clone bytes_Clone_t
  have : m.isEmpty = false := by cases m with | nil => exact absurd rfl h0 | cons x r => rfl
  rw [this, decide_eq_true hm]
  rfl
theorem with_eq {m l : List Int} (h0 : m ≠ []) (hm : m.length ≤ 2147483648) {a : Int} (ha : 0 ≤ a) (hl : a + l.length ≤ m.length) : mem_with m a l = some (put m a.toNat l) := by
  unfold mem_with mem_with_t
  rw [clone_eq h0 hm]
  simp only [outOf, Int.toNat_natCast, List.drop_zero]
  rw [decide_eq_true (show 0 ≤ a ∧ a ≤ (m.length : Int) ∧ (m.length : Int) ≤ (m.length : Int) by omega)]
  simp only [cond_true]
  have e1 : l.take (m.length - a.toNat) = l := List.take_of_length_le (by omega)
  have e2 : min l.length (m.length - a.toNat) = l.length := by omega
  rw [e1, e2, Nat.zero_add]
  have : (m.take a.toNat ++ l ++ m.drop (a.toNat + l.length)).length = m.length := put_length (by omega)
  rw [List.take_of_length_le (by omega)]
  rfl
theorem word_eq {x : Int} (hx : Cell x) : mem_word x = some (word x) := by
  unfold mem_word mem_word_t
  have wx : IntKind.wrap IntKind.u64 x = x % 18446744073709551616 := wu x
  have u8 : ∀ y : Int, IntKind.wrap IntKind.u8 y = y % 256 := fun y => IntKind.wrap_u8 y
  have step : ∀ (i : Nat) (m : List Int), i < 8 → m.length = 8 → mem_word_L1_pass (x, (i : Int), m) = some (.inl (x, ((i + 1 : Nat) : Int), m.set i (x % 18446744073709551616 / 2 ^ (8 * i) % 256))) := by
    intro i m hi hm
    unfold mem_word_L1_pass mem_word_L1_t
    simp only
    have w8 : IntKind.wrap IntKind.i64 ((i : Int) * 8) = ((8 * i : Nat) : Int) := by rw [wi, W_of ⟨by omega, by omega⟩]; omega
    have w9 : IntKind.wrap IntKind.u64 (((8 * i : Nat)) : Int) = ((8 * i : Nat) : Int) := by rw [wu]; omega
    have w1 : IntKind.wrap IntKind.i64 ((i : Int) + 1) = ((i + 1 : Nat) : Int) := by rw [wi, W_of ⟨by omega, by omega⟩]; omega
    rw [decide_eq_true (show (i : Int) < 8 by omega), w8, w9, decide_eq_false (by omega), Int.toNat_natCast, Int.toNat_natCast, Nat.zero_add, decide_eq_true (show (0 : Int) ≤ i ∧ (i : Int) < 8 ∧ i < m.length by omega), w1, wx, u8]
    have hmn : min (8 * i) 64 = 8 * i := by omega
    rw [hmn, Int.fdiv_eq_ediv_of_nonneg _ (Int.le_of_lt (two_pos _))]
    rfl
  have fin : ∀ m : List Int, mem_word_L1_pass (x, 8, m) = some (.inr m) := fun m => rfl
  have run : mem_word_L1 (x, 0, [0, 0, 0, 0, 0, 0, 0, 0]) = some (word x) := by
    unfold mem_word_L1
    refine Eq.trans (runs_next (step 0 [0, 0, 0, 0, 0, 0, 0, 0] (by omega) rfl)) ?_
    refine Eq.trans (runs_next (step 1 _ (by omega) rfl)) ?_
    refine Eq.trans (runs_next (step 2 _ (by omega) rfl)) ?_
    refine Eq.trans (runs_next (step 3 _ (by omega) rfl)) ?_
    refine Eq.trans (runs_next (step 4 _ (by omega) rfl)) ?_
    refine Eq.trans (runs_next (step 5 _ (by omega) rfl)) ?_
    refine Eq.trans (runs_next (step 6 _ (by omega) rfl)) ?_
    refine Eq.trans (runs_next (step 7 _ (by omega) rfl)) ?_
    refine Eq.trans (runs_out (fin _)) ?_
    rw [← word_mod]
    unfold word
    simp only [List.set_cons_zero, List.set_cons_succ]
    rw [show (2 : Int) ^ (8 * 0) = 1 by decide, Int.ediv_one, show (2 : Int) ^ (8 * 1) = 256 by decide, show (2 : Int) ^ (8 * 2) = 65536 by decide, show (2 : Int) ^ (8 * 3) = 16777216 by decide, show (2 : Int) ^ (8 * 4) = 4294967296 by decide,
      show (2 : Int) ^ (8 * 5) = 1099511627776 by decide, show (2 : Int) ^ (8 * 6) = 281474976710656 by decide, show (2 : Int) ^ (8 * 7) = 72057594037927936 by decide]
  rw [run]
  rfl
theorem Put_eq {m : List Int} (hm : m.length ≤ 2147483648) {a x : Int} (ha : Cell a) (hx : Cell x) :
    mem_Put m a x = some (if slot m a = 0 then (put m a.toNat (word x), 0) else (m, slot m a)) := by
  unfold mem_Put mem_Put_t
  rw [slot_eq hm ha]
  simp only [outOf]
  by_cases h : slot m a = 0
  · rw [if_pos h, if_pos h]
    obtain ⟨h1, h2, h3⟩ := slot_zero h
    rw [word_eq hx]
    have h0 : m ≠ [] := by rintro rfl; simp at h2; omega
    simp only
    rw [with_eq h0 hm h1 (by rw [word_length]; omega)]
    rfl
  · rw [if_neg h, if_neg h, bne_iff_ne.2 h]
    rfl
theorem or_apart {v c i : Nat} (hv : v < 2 ^ (8 * i)) (hc : c < 256) (hi : i < 8) : ibits .or .i64 (W (v : Int)) (W ((c : Int) * 2 ^ (8 * i))) = W ((v + c * 2 ^ (8 * i) : Nat) : Int) := by
  rw [ibits_def]
  show IntKind.wrap .i64 (((BitVec.ofInt 64 (W (v : Int)) ||| BitVec.ofInt 64 (W ((c : Int) * 2 ^ (8 * i)))).toNat : Nat) : Int) = _
  have hp : 2 ^ (8 * i) ≤ 2 ^ 56 := Nat.pow_le_pow_right (by omega) (by omega)
  have h56 : 2 ^ 56 = 72057594037927936 := by decide
  have hcp : c * 2 ^ (8 * i) ≤ 255 * 2 ^ 56 := Nat.mul_le_mul (by omega) hp
  have ec : (c : Int) * 2 ^ (8 * i) = ((c * 2 ^ (8 * i) : Nat) : Int) := by
    rw [Int.natCast_mul, Int.natCast_pow]; rfl
  have e : (BitVec.ofInt 64 (W (v : Int)) ||| BitVec.ofInt 64 (W ((c : Int) * 2 ^ (8 * i)))).toNat = v + c * 2 ^ (8 * i) := by
    rw [BitVec.toNat_or, BitVec.toNat_ofInt, BitVec.toNat_ofInt, ec]
    rw [show ((2 ^ 64 : Nat) : Int) = 18446744073709551616 by decide, mod_W, mod_W]
    have e1 : ((v : Int) % 18446744073709551616).toNat = v := by omega
    have e2 : (((c * 2 ^ (8 * i) : Nat) : Int) % 18446744073709551616).toNat = c * 2 ^ (8 * i) := by omega
    rw [e1, e2, ← Nat.shiftLeft_eq, Nat.or_comm, ← Nat.shiftLeft_add_eq_or_of_lt hv]
    omega
  rw [e, wi]
theorem val_nat {l : List Int} (h : Bytes l) : ∃ n : Nat, val l = n ∧ n < 2 ^ (8 * l.length) := by
  induction l with
  | nil => exact ⟨0, rfl, by decide⟩
  | cons c r ih =>
    obtain ⟨n, e, hn⟩ := ih h.tail
    have hc := h c (List.mem_cons_self)
    refine ⟨c.toNat + 256 * n, by unfold val; rw [e]; omega, ?_⟩
    rw [List.length_cons, Nat.mul_add, Nat.pow_add]
    have : 2 ^ (8 * 1) = 256 := by decide
    rw [this]
    omega
theorem val_snoc (l : List Int) (c : Int) : val (l ++ [c]) = val l + c * 2 ^ (8 * l.length) := by
  induction l with
  | nil => simp [val]
  | cons x r ih =>
    rw [List.cons_append]
    unfold val
    rw [ih, List.length_cons, Nat.mul_add, Int.pow_add]
    have : (2 : Int) ^ (8 * 1) = 256 := by decide
    rw [this]
    rw [Int.mul_add, ← Int.mul_assoc c]
    generalize c * 2 ^ (8 * r.length) = z
    omega
theorem get_loop {l : List Int} (hl : Bytes l) (h8 : l.length = 8) (e : Int) : mem_Get_L1 (e, 0, l, 8, 0) = some (e, W (val l)) := by
  unfold mem_Get_L1
  have hs := runs_all (pass := mem_Get_L1_pass) (fun i : Nat => ((e, W (val (l.take i)), l, 8, (i : Int)) : mem_Get_L1_D)) 8 (x := (e, W (val l))) (fun i hi => ?_) ?_
  · exact hs
  · show mem_Get_L1_pass (e, W (val (l.take i)), l, 8, (i : Int)) = _
    unfold mem_Get_L1_pass mem_Get_L1_t
    simp only
    have w8 : IntKind.wrap IntKind.i64 ((i : Int) * 8) = ((8 * i : Nat) : Int) := by rw [wi, W_of ⟨by omega, by omega⟩]; omega
    have w9 : IntKind.wrap IntKind.u64 (((8 * i : Nat)) : Int) = ((8 * i : Nat) : Int) := by rw [wu]; omega
    have w1 : IntKind.wrap IntKind.i64 ((i : Int) + 1) = ((i + 1 : Nat) : Int) := by rw [wi, W_of ⟨by omega, by omega⟩]; omega
    have hi' : i < l.length := by omega
    have hg : l.getD i 0 = l[i] := by rw [List.getD_eq_getElem?_getD, List.getElem?_eq_getElem hi']; rfl
    have hb := hl l[i] (List.getElem_mem hi')
    rw [decide_eq_true (show (i : Int) < 8 by omega), decide_eq_true (show (0 : Int) ≤ i ∧ (i : Int) < (l.length : Int) by omega), w8, w9, decide_eq_false (by omega), Int.toNat_natCast, Int.toNat_natCast, w1, hg]
    simp only [cond_true, cond_false]
    have hmn : min (8 * i) 64 = 8 * i := by omega
    have wc : IntKind.wrap IntKind.i64 l[i] = l[i] := by rw [wi, W_of ⟨by omega, by omega⟩]
    rw [hmn, wc]
    obtain ⟨n, en, hn⟩ := val_nat (hl.take i)
    rw [List.length_take, Nat.min_eq_left (by omega)] at hn
    obtain ⟨c, ec⟩ : ∃ c : Nat, l[i] = c := ⟨l[i].toNat, by omega⟩
    have hor := or_apart hn (show c < 256 by omega) hi
    rw [wi, en, ec, hor]
    have ht : l.take (i + 1) = l.take i ++ [l[i]] := by rw [List.take_add_one, List.getElem?_eq_getElem hi']; rfl
    have hv : ((n + c * 2 ^ (8 * i) : Nat) : Int) = val (l.take (i + 1)) := by
      rw [ht, val_snoc, en, ec, List.length_take, Nat.min_eq_left (by omega), Int.natCast_add, Int.natCast_mul, Int.natCast_pow]; rfl
    rw [hv]
  · show mem_Get_L1_pass (e, W (val (l.take 8)), l, 8, ((8 : Nat) : Int)) = _
    rw [List.take_of_length_le (by omega)]
    rfl
theorem Get_eq {m : List Int} (hb : Bytes m) (hm : m.length ≤ 2147483648) {a : Int} (ha : Cell a) :
    mem_Get m a = some (if slot m a = 0 then (cellAt m a.toNat, 0) else (0, slot m a)) := by
  unfold mem_Get mem_Get_t
  rw [slot_eq hm ha]
  simp only [outOf]
  by_cases h : slot m a = 0
  · rw [if_pos h, if_pos h]
    obtain ⟨h1, h2, h3⟩ := slot_zero h
    have hl : ((m.drop a.toNat).take 8).length = 8 := by rw [List.length_take, List.length_drop]; omega
    have lp := get_loop ((hb.drop a.toNat).take 8) hl 0
    simp only [hl]
    rw [show (((8 : Nat) : Int)) = 8 from rfl, lp]
    rfl
  · rw [if_neg h, if_neg h]
    have : mem_Get_L1 (slot m a, 0, [], (([] : List Int).length : Int), 0) = some (slot m a, 0) := runs_out rfl
    simp only
    rw [this]
theorem repeat_one (c : Int) : bytes_Repeat [c] 1 = some [c] := by
  unfold bytes_Repeat bytes_Repeat_t
  have m1 : bytes_Repeat_M1 1 = some () := rfl
  have b : bits_Mul (IntKind.wrap IntKind.u64 (([c].length : Nat) : Int)) (IntKind.wrap IntKind.u64 1) = (0, 1) := by
    have h := mul64_eq (a := 1) (b := 1) (by decide) (by decide) (by decide) (by decide)
    have w : IntKind.wrap IntKind.u64 (([c].length : Nat) : Int) = 1 := by rw [wu]; rfl
    have w' : IntKind.wrap IntKind.u64 1 = 1 := by rw [wu]; rfl
    rw [w, w']
    unfold bits_Mul
    rw [h]
    rfl
  rw [m1, b]
  have w1 : IntKind.wrap IntKind.i64 1 = 1 := by rw [wi]; rfl
  simp only [outOf]
  rw [w1]
  have m2 : bytes_Repeat_M2 0 1 = some () := rfl
  have m3 : bytes_Repeat_M3 [c] 1 = some 1 := rfl
  rw [m2, m3]
  have l1 : bytes_Repeat_L1 (1, 1, 1, 1, [c], 1) = some (1, [c], 1) := runs_out rfl
  have e : (List.take 0 ([] : List Int) ++ List.take (Int.toNat 1 - 0) [c] ++ List.drop (0 + min [c].length (Int.toNat 1 - 0)) []) = [c] := rfl
  rw [e]
  have q : bytes_Repeat_L1 (1, 1, Int.toNat 1 - 0, ((min [c].length (Int.toNat 1 - 0) : Nat) : Int), [c], Int.toNat 1) = some (1, [c], 1) := l1
  have z1 : ((1 : Int) == 0) = false := rfl
  have z2 : ((([c].length : Nat) : Int) == 0) = false := rfl
  rw [z1, z2]
  simp only [cond_false]
  rw [q]
  rfl
/-- May a byte lie there? -/
def byteAt (m : List Int) (a : Int) : Bool := decide (0 ≤ a ∧ a < m.length)
theorem PutByte_eq {m : List Int} (hm : m.length ≤ 2147483648) {a x : Int} (ha : Cell a) :
    mem_PutByte m a x = some (if byteAt m a = true then (put m a.toNat [x % 256], 0) else (m, -9)) := by
  unfold mem_PutByte mem_PutByte_t mem_Fill mem_Fill_t
  rw [span_eq hm ha ⟨by decide, by decide⟩]
  have hs : spanB m a 1 = byteAt m a := by
    unfold spanB byteAt
    rw [decide_eq_decide]; omega
  rw [hs]
  simp only [outOf]
  have u8 : IntKind.wrap IntKind.u8 x = x % 256 := IntKind.wrap_u8 x
  cases h : byteAt m a with
  | true =>
    have h' : 0 ≤ a ∧ a < m.length := of_decide_eq_true h
    have h0 : m ≠ [] := by rintro rfl; simp at h'; omega
    simp only [if_true, Bool.not_true, cond_false]
    rw [u8, repeat_one]
    simp only
    rw [with_eq h0 hm h'.1 (by simp; omega)]
  | false => rfl
end Go.Proofs.Dbl

/- Plain facts: what the document's memory functions do. -/
namespace Go.Proofs.Dbl
open Go Go.TX Go.Proofs
set_option maxRecDepth 100000
set_option maxHeartbeats 0
set_option linter.unusedVariables false
set_option linter.unusedSimpArgs false
end Go.Proofs.Dbl

/- Plain facts: what the functions of pictures do, by the program and by the document. -/
namespace Go.Proofs.Dbl
open Go Go.TX Go.Proofs
set_option maxRecDepth 100000
set_option maxHeartbeats 0
set_option linter.unusedVariables false
set_option linter.unusedSimpArgs false
/-- May a user's area begin there? -/
def areaB (u : Int) : Bool := decide (0 ≤ u ∧ u ≤ 5120)
theorem area_eq (u : Int) : pic_area u = some (areaB u) := by
  unfold pic_area pic_area_t areaB
  by_cases h : u ≥ 0
  · rw [decide_eq_true h]
    simp only [cond_true]
    congr 1; rw [decide_eq_decide]; omega
  · rw [decide_eq_false h, decide_eq_false (show ¬ (0 ≤ u ∧ u ≤ 5120) by omega)]; rfl
/-- The cell at a place, or what is wrong. -/
def getV (m : List Int) (a : Int) : Int × Int := if slot m a = 0 then (cellAt m a.toNat, 0) else (0, slot m a)
def putV (m : List Int) (a x : Int) : List Int × Int := if slot m a = 0 then (put m a.toNat (word x), 0) else (m, slot m a)
def baseV (m : List Int) (u : Int) : Int × Int :=
  if areaB u = true then (if (getV m u).2 ≠ 0 then (0, (getV m u).2) else if 2 ≤ (getV m u).1 ∧ (getV m u).1 ≤ 36 then ((getV m u).1, 0) else (0, -24)) else (0, -9)
def beginV (m : List Int) (u : Int) : List Int × Int := if areaB u = true then putV m (u + 8) (u + 128) else (m, -9)
def holdV (m : List Int) (u c : Int) : List Int × Int :=
  if areaB u = true then
    if (getV m (u + 8)).2 ≠ 0 then (m, (getV m (u + 8)).2)
    else if (getV m (u + 8)).1 < u + 33 ∨ u + 128 < (getV m (u + 8)).1 then (m, -17)
    else if byteAt m ((getV m (u + 8)).1 - 1) = true then (put (put m (u + 8).toNat (word ((getV m (u + 8)).1 - 1))) ((getV m (u + 8)).1 - 1).toNat [c % 256], 0)
    else (m, -9)
  else (m, -9)
def endV (m : List Int) (u : Int) : Int × Int × Int :=
  if areaB u = true then
    if (getV m (u + 8)).2 ≠ 0 then (0, 0, (getV m (u + 8)).2)
    else if (getV m (u + 8)).1 < u + 32 ∨ u + 128 < (getV m (u + 8)).1 then (0, 0, -9)
    else ((getV m (u + 8)).1, u + 128 - (getV m (u + 8)).1, 0)
  else (0, 0, -9)
theorem area_facts {u : Int} (h : areaB u = true) : 0 ≤ u ∧ u ≤ 5120 := of_decide_eq_true h
theorem add_small {u k : Int} (h : areaB u = true) (h0 : 0 ≤ k) (hk : k ≤ 1000) : IntKind.wrap IntKind.i64 (u + k) = u + k ∧ Cell (u + k) := by
  obtain ⟨h1, h2⟩ := area_facts h
  have hc : Cell (u + k) := ⟨by omega, by omega⟩
  exact ⟨by rw [wi, W_of hc], hc⟩
theorem getV_cell (m : List Int) (a : Int) : Cell (getV m a).1 := by
  unfold getV
  split
  · exact W_cell _
  · exact ⟨by show -9223372036854775808 ≤ (0 : Int); decide, by show (0 : Int) ≤ 9223372036854775807; decide⟩
section
variable {m : List Int} (hb : Bytes m) (hm : m.length ≤ 2147483648)
include hb hm
theorem Get_V {a : Int} (ha : Cell a) : mem_Get m a = some (getV m a) := Get_eq hb hm ha
theorem held_eq (u : Int) : pic_held m u = some (if areaB u = true then getV m (u + 8) else (0, -9)) := by
  unfold pic_held pic_held_t
  rw [area_eq]
  simp only [outOf]
  cases h : areaB u with
  | false => rfl
  | true =>
    obtain ⟨w, c⟩ := add_small h (k := 8) (by decide) (by decide)
    rw [w, Get_V hb hm c]
    rfl
theorem Base_eq (u : Int) : pic_Base m u = some (baseV m u) := by
  unfold pic_Base pic_Base_t baseV
  rw [area_eq]
  simp only [outOf]
  cases h : areaB u with
  | false => rfl
  | true =>
    obtain ⟨w, c⟩ := add_small h (k := 0) (by decide) (by decide)
    rw [w, Int.add_zero, Get_V hb hm (by rwa [Int.add_zero] at c)]
    generalize getV m u = g
    simp only [Bool.not_true, cond_false, if_true]
    by_cases h2 : g.2 = 0
    · rw [bne_eq_false_iff_eq.2 h2, if_neg (fun hh => hh h2)]
      by_cases h3 : g.1 < 2
      · rw [decide_eq_true h3, if_neg (by omega)]; rfl
      · rw [decide_eq_false h3]
        by_cases h4 : g.1 > 36
        · rw [decide_eq_true h4, if_neg (by omega)]; rfl
        · rw [decide_eq_false h4, if_pos ⟨by omega, by omega⟩]; rfl
    · rw [bne_iff_ne.2 h2, if_pos h2]; rfl
omit hb in
theorem Begin_eq (u : Int) : pic_Begin m u = some (beginV m u) := by
  unfold pic_Begin pic_Begin_t beginV pic_end
  rw [area_eq]
  simp only [outOf]
  cases h : areaB u with
  | false => rfl
  | true =>
    obtain ⟨w, c⟩ := add_small h (k := 8) (by decide) (by decide)
    obtain ⟨w', c'⟩ := add_small h (k := 128) (by decide) (by decide)
    rw [w, w', Put_eq hm c c']
    rfl
theorem Hold_eq (u : Int) {c : Int} : pic_Hold m u c = some (holdV m u c) := by
  unfold pic_Hold pic_Hold_t holdV
  rw [held_eq hb hm]
  simp only [outOf]
  cases h : areaB u with
  | false => rfl
  | true =>
    simp only [if_true]
    obtain ⟨w8, c8⟩ := add_small h (k := 8) (by decide) (by decide)
    obtain ⟨w32, c32⟩ := add_small h (k := 32) (by decide) (by decide)
    obtain ⟨w128, c128⟩ := add_small h (k := 128) (by decide) (by decide)
    obtain ⟨u0, u1⟩ := area_facts h
    have hg := getV_cell m (u + 8)
    have hs : (getV m (u + 8)).2 = 0 → slot m (u + 8) = 0 := fun hz => by
      unfold getV at hz
      split at hz
      · assumption
      · exact hz
    generalize getV m (u + 8) = g at *
    by_cases h2 : g.2 = 0
    · rw [if_neg (fun hh => hh h2)]
      have m1 : pic_Hold_M1 u g.1 g.2 = some (if g.1 < u + 33 ∨ u + 128 < g.1 then .inl (-17) else .inr ()) := by
        unfold pic_Hold_M1 pic_Hold_M1_t pic_end pic_pictured pic_pictured_t pic_end
        rw [bne_eq_false_iff_eq.2 h2, w128, w32, wi]
        unfold Cell at hg
        by_cases h3 : g.1 > u + 128
        · rw [decide_eq_true h3, if_pos (.inr (by omega))]; rfl
        · rw [decide_eq_false h3]
          by_cases h4 : g.1 < u + 33
          · rw [if_pos (.inl h4)]
            by_cases h5 : W (g.1 - 1) ≥ u + 32
            · rw [decide_eq_true h5, decide_eq_false (by unfold W at h5 ⊢; omega)]; rfl
            · rw [decide_eq_false h5]; rfl
          · rw [if_neg (by omega), W_of ⟨by omega, by omega⟩, decide_eq_true (by omega), decide_eq_true (by omega)]; rfl
      rw [m1]
      by_cases h3 : g.1 < u + 33 ∨ u + 128 < g.1
      · rw [if_pos h3, if_pos h3]; rfl
      · rw [if_neg h3, if_neg h3]
        simp only [sumOf]
        have hc1 : Cell (g.1 - 1) := ⟨by omega, by omega⟩
        have w1 : IntKind.wrap IntKind.i64 (g.1 - 1) = g.1 - 1 := by rw [wi, W_of hc1]
        rw [w1, w8, Put_eq hm c8 hc1, if_pos (hs h2)]
        obtain ⟨s1, s2, s3⟩ := slot_zero (hs h2)
        have hlen : (put m (u + 8).toNat (word (g.1 - 1))).length = m.length := put_length (by rw [word_length]; omega)
        simp only [bne_self_eq_false, cond_false]
        rw [PutByte_eq (by omega) hc1]
        have hby : byteAt (put m (u + 8).toNat (word (g.1 - 1))) (g.1 - 1) = byteAt m (g.1 - 1) := by unfold byteAt; rw [hlen]
        rw [hby]
        cases byteAt m (g.1 - 1) <;> rfl
    · rw [if_pos h2]
      have m1 : pic_Hold_M1 u g.1 g.2 = some (.inl g.2) := by
        unfold pic_Hold_M1 pic_Hold_M1_t
        rw [bne_iff_ne.2 h2]; rfl
      rw [m1]; rfl
theorem End_eq (u : Int) : pic_End m u = some (endV m u) := by
  unfold pic_End pic_End_t endV
  rw [held_eq hb hm]
  simp only [outOf]
  cases h : areaB u with
  | false => rfl
  | true =>
    simp only [if_true]
    obtain ⟨w32, c32⟩ := add_small h (k := 32) (by decide) (by decide)
    obtain ⟨w128, c128⟩ := add_small h (k := 128) (by decide) (by decide)
    obtain ⟨u0, u1⟩ := area_facts h
    have hg := getV_cell m (u + 8)
    generalize getV m (u + 8) = g at *
    by_cases h2 : g.2 = 0
    · rw [if_neg (fun hh => hh h2), bne_eq_false_iff_eq.2 h2]
      unfold pic_end pic_pictured pic_pictured_t pic_end
      rw [w128, w32]
      simp only [cond_false]
      by_cases h3 : g.1 < u + 32 ∨ u + 128 < g.1
      · rw [if_pos h3, bne_iff_ne.2 (by omega)]
        by_cases h5 : g.1 ≥ u + 32
        · rw [decide_eq_true h5, decide_eq_false (by omega)]; rfl
        · rw [decide_eq_false h5]; rfl
      · rw [if_neg h3]
        have w : IntKind.wrap IntKind.i64 (u + 128 - g.1) = u + 128 - g.1 := by rw [wi, W_of ⟨by omega, by omega⟩]
        rw [w]
        by_cases h4 : g.1 = u + 128
        · rw [bne_eq_false_iff_eq.2 h4]; rfl
        · rw [bne_iff_ne.2 h4, decide_eq_true (by omega), decide_eq_true (by omega)]; rfl
    · rw [if_pos h2, bne_iff_ne.2 h2]; rfl
end
end Go.Proofs.Dbl

/- Plain facts: digits of pictures; PicIs holds. -/
namespace Go.Proofs.Dbl
open Go Go.TX Go.Proofs
set_option maxRecDepth 100000
set_option maxHeartbeats 0
set_option linter.unusedVariables false
set_option linter.unusedSimpArgs false
theorem div_parts {b : Nat} (b1 : 2 ≤ b) {u : Nat} (hu : u < 340282366920938463463374607431768211456) :
    ((u : Int) / 18446744073709551616 % b * 18446744073709551616 + (u : Int) % 18446744073709551616) % b = ((u % b : Nat) : Int) ∧
    W (((u : Int) / 18446744073709551616 % b * 18446744073709551616 + (u : Int) % 18446744073709551616) / b) = lo_ (u / b) ∧
    W ((u : Int) / 18446744073709551616 / b) = hi_ (u / b) := by
  have key : ((u : Int) / 18446744073709551616 % b * 18446744073709551616 + (u : Int) % 18446744073709551616) = (u : Int) - b * (((u : Int) / 18446744073709551616 / b) * 18446744073709551616) := by
    have h := Int.emod_add_mul_ediv ((u : Int) / 18446744073709551616) b
    have h' := Int.emod_add_mul_ediv (u : Int) 18446744073709551616
    rw [← Int.mul_assoc]
    generalize (b : Int) * ((u : Int) / 18446744073709551616 / b) = z at *
    omega
  have er : ((u : Int) / 18446744073709551616 % b * 18446744073709551616 + (u : Int) % 18446744073709551616) % b = ((u % b : Nat) : Int) := by
    rw [key, Int.sub_mul_emod_self_left]; exact (Int.natCast_emod u b).symm
  have eq' : ((u : Int) / 18446744073709551616 % b * 18446744073709551616 + (u : Int) % 18446744073709551616) / b = (u : Int) / b - ((u : Int) / 18446744073709551616 / b) * 18446744073709551616 := by
    rw [key, Int.sub_mul_ediv_left _ _ (by omega)]
  have eqh : (u : Int) / 18446744073709551616 / b = (u : Int) / b / 18446744073709551616 := by
    rw [Int.ediv_ediv_of_nonneg (by omega), Int.ediv_ediv_of_nonneg (by omega), Int.mul_comm]
  have hub : ((u : Int) / b) = ((u / b : Nat) : Int) := (Int.natCast_ediv u b).symm
  rw [er, eq', eqh, hub]
  refine ⟨rfl, ?_, rfl⟩
  have := low_of (u / b)
  rw [wi] at this
  exact this
theorem pdivide_eq {b : Nat} (b1 : 2 ≤ b) (b2 : b ≤ 36) {u : Nat} (hu : u < 340282366920938463463374607431768211456) :
    pic_divide (lo_ u) (hi_ u) (b : Int) = some (lo_ (u / b), hi_ (u / b), ((u % b : Nat) : Int)) := by
  unfold pic_divide pic_divide_t
  have el : IntKind.wrap IntKind.u64 (lo_ u) = (u : Int) % 18446744073709551616 := by rw [wu, un_low]
  have eh : IntKind.wrap IntKind.u64 (hi_ u) = (u : Int) / 18446744073709551616 := by rw [wu, un_high hu]
  have eb : IntKind.wrap IntKind.u64 (b : Int) = (b : Int) := by rw [wu]; omega
  rw [el, eh, eb, decide_eq_false (by omega)]
  have hH0 : (0 : Int) ≤ (u : Int) / 18446744073709551616 := by omega
  rw [Int.tmod_eq_emod_of_nonneg hH0, Int.tdiv_eq_ediv_of_nonneg hH0]
  have hm0 : 0 ≤ (u : Int) / 18446744073709551616 % b := Int.emod_nonneg _ (by omega)
  have hm1 : (u : Int) / 18446744073709551616 % b < b := Int.emod_lt_of_pos _ (by omega)
  rw [div64_eq b1 b2 hm0 hm1 (by omega) (by omega)]
  obtain ⟨p1, p2, p3⟩ := div_parts b1 hu
  simp only [outOf, cond_false]
  rw [p1, wi, wi, wi, wu, W_mod, p2, p3]
  have : W ((u % b : Nat) : Int) = ((u % b : Nat) : Int) := by
    have := Nat.mod_lt u (show 0 < b by omega)
    rw [W_of ⟨by omega, by omega⟩]
  rw [this]
/-- The number, without a sign, of a double. -/
def un (lo hi : Int) : Nat := (D lo hi).toNat
theorem un_lt (lo hi : Int) : un lo hi < 340282366920938463463374607431768211456 := by
  have := D_range lo hi
  unfold un; omega
theorem un_parts {lo hi : Int} (h1 : Cell lo) (h2 : Cell hi) : lo_ (un lo hi) = lo ∧ hi_ (un lo hi) = hi := by
  have := D_range lo hi
  have e : ((un lo hi : Nat) : Int) = D lo hi := by unfold un; omega
  unfold lo_ hi_
  rw [e]
  unfold Cell at h1 h2
  unfold D W
  omega
/-- A digit is laid. -/
def digitV (m : List Int) (u : Int) (n : Nat) : List Int × Int × Int × Int :=
  if (baseV m u).2 ≠ 0 then (m, 0, 0, (baseV m u).2)
  else if (holdV m u ((cap (n % (baseV m u).1.toNat)).toNat : Int)).2 ≠ 0 then (m, 0, 0, (holdV m u ((cap (n % (baseV m u).1.toNat)).toNat : Int)).2)
  else ((holdV m u ((cap (n % (baseV m u).1.toNat)).toNat : Int)).1, lo_ (n / (baseV m u).1.toNat), hi_ (n / (baseV m u).1.toNat), 0)
theorem base_ok {m : List Int} {u : Int} (h : (baseV m u).2 = 0) : ∃ b : Nat, (baseV m u).1 = b ∧ 2 ≤ b ∧ b ≤ 36 := by
  unfold baseV at h ⊢
  split at h
  · rename_i ha
    rw [if_pos ha]
    split at h
    · rename_i h2; exact absurd h h2
    · rename_i h2
      rw [if_neg h2]
      split at h
      · rename_i h3
        rw [if_pos h3]
        exact ⟨(getV m u).1.toNat, by simp only; omega, by omega, by omega⟩
      · cases h
  · cases h
theorem one_sign (c : UInt8) : (decide ((0 : Int) ≤ 0 ∧ (0 : Int) < ((bs [c]).size : Int))) = true := rfl
theorem one_byte (c : UInt8) : IntKind.wrap IntKind.i64 ((UInt8.toNat (List.getD (Array.toList (ByteArray.data (bs [c]))) 0 (UInt8.ofNat (nat_lit 0))) : Nat) : Int) = (c.toNat : Int) := by
  show IntKind.wrap IntKind.i64 (c.toNat : Int) = _
  have := c.toNat_lt
  rw [wi, W_of ⟨by omega, by omega⟩]
section
variable {m : List Int} (hb : Bytes m) (hm : m.length ≤ 2147483648)
include hb hm
theorem Digit_V (u : Int) {n : Nat} (hn : n < 340282366920938463463374607431768211456) : pic_Digit m u (lo_ n) (hi_ n) = some (digitV m u n) := by
  unfold pic_Digit pic_Digit_t digitV
  rw [Base_eq hb hm]
  simp only [outOf]
  by_cases h : (baseV m u).2 = 0
  · rw [if_neg (fun hh => hh h), bne_eq_false_iff_eq.2 h]
    obtain ⟨b, e, b1, b2⟩ := base_ok h
    rw [e, pdivide_eq b1 b2 hn]
    simp only [cond_false, Int.toNat_natCast]
    have hsl : n % b < 36 := by have := Nat.mod_lt n (show 0 < b by omega); omega
    rw [Sign_eq hsl]
    simp only
    rw [one_sign, one_byte, Hold_eq hb hm]
    simp only [cond_true]
    generalize holdV m u _ = x
    by_cases h2 : x.2 = 0
    · rw [bne_eq_false_iff_eq.2 h2, if_neg (fun hh => hh h2)]; rfl
    · rw [bne_iff_ne.2 h2, if_pos h2]; rfl
  · rw [if_pos h, bne_iff_ne.2 h]; rfl
/-- What is held changes nothing of a memory's size, and it stays bytes. -/
theorem hold_keeps (u c : Int) : Bytes (holdV m u c).1 ∧ (holdV m u c).1.length = m.length := by
  unfold holdV
  split
  · rename_i ha
    split
    · exact ⟨hb, rfl⟩
    · rename_i h2
      split
      · exact ⟨hb, rfl⟩
      · rename_i h3
        split
        · rename_i h4
          have hs : slot m (u + 8) = 0 := by
            unfold getV at h2
            split at h2
            · assumption
            · exact absurd (Decidable.byContradiction fun hn => h2 hn) (by assumption)
          obtain ⟨s1, s2, s3⟩ := slot_zero hs
          have h4' : 0 ≤ (getV m (u + 8)).1 - 1 ∧ (getV m (u + 8)).1 - 1 < m.length := of_decide_eq_true h4
          have l1 : (put m (u + 8).toNat (word ((getV m (u + 8)).1 - 1))).length = m.length := put_length (by rw [word_length]; omega)
          refine ⟨Bytes.put (Bytes.put hb (word_bytes _) _) (fun x hx => ?_) _, ?_⟩
          · simp only [List.mem_singleton] at hx; subst hx; omega
          · rw [put_length (by rw [l1]; simp; omega), l1]
        · exact ⟨hb, rfl⟩
  · exact ⟨hb, rfl⟩
theorem digit_keeps (u : Int) (n : Nat) : Bytes (digitV m u n).1 ∧ (digitV m u n).1.length = m.length := by
  unfold digitV
  split
  · exact ⟨hb, rfl⟩
  · split
    · exact ⟨hb, rfl⟩
    · exact hold_keeps hb hm u _
end
theorem digit_err {m : List Int} {u : Int} {n : Nat} (h : (digitV m u n).2.2.2 ≠ 0) : digitV m u n = (m, 0, 0, (digitV m u n).2.2.2) := by
  unfold digitV at h ⊢
  split
  · rfl
  · rename_i h1
    split
    · rfl
    · rename_i h2
      rw [if_neg h1, if_neg h2] at h
      exact absurd rfl h
theorem digit_ok {m : List Int} {u : Int} {n : Nat} (h : (digitV m u n).2.2.2 = 0) : ∃ b : Nat, 2 ≤ b ∧ b ≤ 36 ∧ (baseV m u).1 = b ∧ (baseV m u).2 = 0 ∧ digitV m u n = ((digitV m u n).1, lo_ (n / b), hi_ (n / b), 0) ∧
    (holdV m u ((cap (n % b)).toNat : Int)).2 = 0 ∧ (digitV m u n).1 = (holdV m u ((cap (n % b)).toNat : Int)).1 := by
  unfold digitV at h ⊢
  split
  · rename_i h1; rw [if_pos h1] at h; exact absurd h h1
  · rename_i h1
    have h1' : (baseV m u).2 = 0 := Decidable.byContradiction fun hn => h1 hn
    obtain ⟨b, e, b1, b2⟩ := base_ok h1'
    rw [if_neg h1] at h
    split
    · rename_i h2; rw [if_pos h2] at h; exact absurd h h2
    · rename_i h2
      rw [e, Int.toNat_natCast] at h2 ⊢
      exact ⟨b, b1, b2, rfl, h1', rfl, Decidable.byContradiction fun hn => h2 hn, rfl⟩
/-- All digits, so many at most. -/
def allV (m : List Int) (u : Int) : Nat → List Int → Nat → List Int × Int × Int × Int
  | 0, x, n => (m, 0, 0, -17)
  | k + 1, x, n =>
    if (digitV x u n).2.2.2 ≠ 0 then (m, 0, 0, (digitV x u n).2.2.2)
    else if n / (baseV x u).1.toNat = 0 then ((digitV x u n).1, 0, 0, 0)
    else allV m u k (digitV x u n).1 (n / (baseV x u).1.toNat)
theorem lohi_zero {q : Nat} (h : q < 340282366920938463463374607431768211456) : (lo_ q == (0 : Int) && (hi_ q == (0 : Int) && true)) = decide (q = 0) := by
  have hz := zero_of h
  rw [Bool.and_true]
  by_cases h0 : q = 0
  · have := hz.2 h0
    rw [this.1, this.2, decide_eq_true h0]; rfl
  · rw [decide_eq_false h0, ← Bool.not_eq_true, Bool.and_eq_true, beq_iff_eq, beq_iff_eq]
    exact fun hh => h0 (hz.1 hh)
def outA (s : List Int × Int × Int × Int ⊕ List Int × Int × Int × Int × Int) : List Int × Int × Int × Int :=
  match s with
  | .inl x => (x.1, x.2.2.1, x.2.2.2, x.2.1)
  | .inr x => (x.1, x.2.1, x.2.2.1, 0)
theorem all_next0 {m x x' : List Int} {u l h l' h' : Int} (hD : pic_Digit x u l' h' = some (x', l, h, 0)) : pic_All_L1_pass (m, u, x, l', h', 0, 0) = (cond (l == (0 : Int) && (h == (0 : Int) && true)) (some (.inr (.inr (x', l, h, 0, 0)))) (some (.inl (m, u, x', l, h, 0, 0)))) := by
  unfold pic_All_L1_pass pic_All_L1_t
  simp only
  rw [hD]
  rfl
theorem cond_ite {α : Type} {c : Bool} {q : Nat} (h : c = decide (q = 0)) (a b : α) : cond c a b = if q = 0 then a else b := by
  rw [h]
  by_cases h0 : q = 0
  · rw [decide_eq_true h0, if_pos h0]; rfl
  · rw [decide_eq_false h0, if_neg h0]; rfl
theorem all_next {m x x' : List Int} {u : Int} {n b : Nat} (hq : n / b < 340282366920938463463374607431768211456) (hD : pic_Digit x u (lo_ n) (hi_ n) = some (x', lo_ (n / b), hi_ (n / b), 0)) :
    pic_All_L1_pass (m, u, x, lo_ n, hi_ n, 0, 0) = if n / b = 0 then some (.inr (.inr (x', lo_ (n / b), hi_ (n / b), 0, 0))) else some (.inl (m, u, x', lo_ (n / b), hi_ (n / b), 0, 0)) :=
  (all_next0 hD).trans (cond_ite (lohi_zero hq) _ _)
theorem all_stop {m x : List Int} {u l h : Int} {d : List Int × Int × Int × Int} (he : d.2.2.2 ≠ 0) (hD : pic_Digit x u l h = some d) :
    pic_All_L1_pass (m, u, x, l, h, 0, 0) = some (.inr (.inl (m, d.2.2.2, 0, 0))) := by
  unfold pic_All_L1_pass pic_All_L1_t
  simp only
  rw [hD]
  simp only [outOf]
  rw [bne_iff_ne.2 he]
  rfl
theorem lohi_of_zero {q : Nat} (h : q = 0) : lo_ q = 0 ∧ hi_ q = 0 := by subst h; exact ⟨by decide, by decide⟩
theorem half_lt {n b k : Nat} (b1 : 2 ≤ b) (hn : n < 2 ^ (k + 1)) : n / b < 2 ^ k := by
  have e : 2 ^ (k + 1) = 2 * 2 ^ k := Nat.pow_succ'
  have h1 : n / b ≤ n / 2 := Nat.div_le_div_left b1 (by omega)
  omega
theorem pow_big {n k : Nat} (hn : n < 2 ^ k) (hk : k ≤ 128) : n < 340282366920938463463374607431768211456 := by
  have h1 : 2 ^ k ≤ 2 ^ 128 := Nat.pow_le_pow_right (by omega) hk
  rw [two128] at h1
  omega
theorem allV_err {m x : List Int} {u : Int} {n k : Nat} (he : (digitV x u n).2.2.2 ≠ 0) : allV m u (k + 1) x n = (m, 0, 0, (digitV x u n).2.2.2) := by
  rw [allV, if_pos he]
theorem allV_end {m x : List Int} {u : Int} {n k b : Nat} (he : (digitV x u n).2.2.2 = 0) (hb : (baseV x u).1 = b) (h0 : n / b = 0) : allV m u (k + 1) x n = ((digitV x u n).1, 0, 0, 0) := by
  rw [allV, if_neg (fun hh => hh he), hb, Int.toNat_natCast, if_pos h0]
theorem allV_next {m x : List Int} {u : Int} {n k b : Nat} (he : (digitV x u n).2.2.2 = 0) (hb : (baseV x u).1 = b) (h0 : n / b ≠ 0) : allV m u (k + 1) x n = allV m u k (digitV x u n).1 (n / b) := by
  rw [allV, if_neg (fun hh => hh he), hb, Int.toNat_natCast, if_neg h0]
theorem all_loop {m : List Int} {u : Int} : ∀ (k : Nat) (x : List Int) (n : Nat), Bytes x → x.length ≤ 2147483648 → n < 2 ^ k → k ≤ 128 →
    ∃ s, pic_All_L1 (m, u, x, lo_ n, hi_ n, 0, 0) = some s ∧ outA s = allV m u (k + 1) x n := by
  intro k
  induction k with
  | zero =>
    intro x n hb hx hn hk
    have hn0 : n = 0 := by simpa using hn
    have hn' := pow_big hn hk
    have hD := Digit_V hb hx u hn'
    by_cases he : (digitV x u n).2.2.2 = 0
    · obtain ⟨b, b1, b2, eb, _, ed, _, _⟩ := digit_ok he
      have hq : n / b < 340282366920938463463374607431768211456 := Nat.lt_of_le_of_lt (Nat.div_le_self _ _) hn'
      have h0 : n / b = 0 := by rw [hn0]; exact Nat.zero_div b
      rw [ed] at hD
      have hp := all_next (m := m) hq hD
      rw [if_pos h0] at hp
      refine ⟨_, runs_out hp, ?_⟩
      rw [allV_end he eb h0]
      obtain ⟨z1, z2⟩ := lohi_of_zero h0
      unfold outA
      simp only
      rw [z1, z2]
    · exact ⟨_, runs_out (all_stop he hD), (allV_err he).symm⟩
  | succ k ih =>
    intro x n hb hx hn hk
    have hn' := pow_big hn hk
    have hD := Digit_V hb hx u hn'
    obtain ⟨kb, kl⟩ := digit_keeps hb hx u n
    by_cases he : (digitV x u n).2.2.2 = 0
    · obtain ⟨b, b1, b2, eb, _, ed, _, _⟩ := digit_ok he
      have hq : n / b < 340282366920938463463374607431768211456 := Nat.lt_of_le_of_lt (Nat.div_le_self _ _) hn'
      rw [ed] at hD
      have hp := all_next (m := m) hq hD
      by_cases h0 : n / b = 0
      · rw [if_pos h0] at hp
        refine ⟨_, runs_out hp, ?_⟩
        rw [allV_end he eb h0]
        obtain ⟨z1, z2⟩ := lohi_of_zero h0
        unfold outA
        simp only
        rw [z1, z2]
      · rw [if_neg h0] at hp
        obtain ⟨s, h1, h2⟩ := ih _ (n / b) kb (by omega) (half_lt b1 hn) (by omega)
        refine ⟨s, (runs_next hp).trans h1, ?_⟩
        rw [allV_next he eb h0, h2]
    · exact ⟨_, runs_out (all_stop he hD), (allV_err he).symm⟩
theorem All_V {m : List Int} (hb : Bytes m) (hm : m.length ≤ 2147483648) (u : Int) {n : Nat} (hn : n < 340282366920938463463374607431768211456) : pic_All m u (lo_ n) (hi_ n) = some (allV m u 129 m n) := by
  unfold pic_All pic_All_t
  obtain ⟨s, h1, h2⟩ := all_loop (m := m) (u := u) 128 m n hb hm (by rw [two128]; exact hn) (Nat.le_refl _)
  rw [h1, ← h2]
  cases s <;> rfl
end Go.Proofs.Dbl

/- Plain facts: the example of pictures; PicIs holds. -/
namespace Go.Proofs.Dbl
open Go Go.TX Go.Proofs
set_option maxRecDepth 100000
set_option maxHeartbeats 0
set_option linter.unusedVariables false
set_option linter.unusedSimpArgs false
def bytesL (l : List Int) : List UInt8 := l.map fun n => UInt8.ofNat n.toNat
theorem strOf_bs (l : List Int) : strOf l = bs (bytesL l) := by
  have : ∀ (l : List Int) (a : ByteArray), (l.foldl (fun r n => r.push (UInt8.ofNat n.toNat)) a).data.toList = a.data.toList ++ bytesL l := by
    intro l
    induction l with
    | nil => intro a; simp [bytesL]
    | cons x l ih =>
      intro a
      rw [List.foldl_cons, ih]
      show (a.data.push _).toList ++ bytesL l = a.data.toList ++ (_ :: bytesL l)
      simp
  apply bs_inj
  unfold strOf
  rw [this]
  rfl
def textV (m : List Int) (a n : Int) : ByteArray × Int := if spanB m a n = true then (bs (bytesL ((m.drop a.toNat).take n.toNat)), 0) else (bs [], -9)
theorem Text_V {m : List Int} (hm : m.length ≤ 2147483648) {a n : Int} (ha : Cell a) (hn : Cell n) : mem_Text m a n = some (textV m a n) := by
  unfold mem_Text mem_Text_t textV
  rw [span_eq hm ha hn]
  simp only [outOf]
  cases h : spanB m a n with
  | true =>
    simp only [if_true, Bool.not_true, cond_false]
    rw [strOf_bs]
  | false => rfl
/-- A user's area with a base, and a picture that begins. -/
def readyV (b : Int) : List Int := put (put (List.replicate 128 0) 0 (word b)) 8 (word 128)
theorem zeros_bytes (n : Nat) : Bytes (List.replicate n 0) := fun x hx => by
  have := List.eq_of_mem_replicate hx
  omega
theorem ready_facts (b : Int) : Bytes (readyV b) ∧ (readyV b).length = 128 := by
  have l1 : (put (List.replicate 128 (0 : Int)) 0 (word b)).length = 128 := by rw [put_length] <;> simp [word_length]
  exact ⟨Bytes.put (Bytes.put (zeros_bytes 128) (word_bytes b) 0) (word_bytes 128) 8, by unfold readyV; rw [put_length (by rw [l1, word_length]; omega), l1]⟩
theorem ready_eq {b : Int} (hb : Cell b) : law_ready b = some (readyV b) := by
  unfold law_ready law_ready_t
  have e : List.take 128 (List.drop 0 (List.replicate 128 (0 : Int))) = List.replicate 128 0 := by decide +kernel
  have hl : (List.replicate 128 (0 : Int)).length ≤ 2147483648 := by simp
  have s0 : slot (List.replicate 128 (0 : Int)) 0 = 0 := by unfold slot; simp
  have l1 : (put (List.replicate 128 (0 : Int)) 0 (word b)).length = 128 := by rw [put_length] <;> simp [word_length]
  rw [e, Put_eq hl ⟨by decide, by decide⟩ hb, if_pos s0]
  simp only [outOf]
  rw [Begin_eq (by show (put (List.replicate 128 (0 : Int)) (Int.toNat 0) (word b)).length ≤ _; rw [show Int.toNat 0 = 0 from rfl, l1]; omega)]
  simp only
  unfold beginV putV
  have a0 : areaB 0 = true := by decide
  have s8 : slot (put (List.replicate 128 (0 : Int)) 0 (word b)) 8 = 0 := by unfold slot; rw [l1]; decide
  rw [if_pos a0]
  simp only [Int.zero_add]
  rw [show Int.toNat 0 = 0 from rfl, if_pos s8]
  rfl
theorem all_keeps {m : List Int} (hm : Bytes m) {u : Int} : ∀ (k : Nat) (x : List Int) (n : Nat), Bytes x → x.length = m.length → m.length ≤ 2147483648 → Bytes (allV m u k x n).1 ∧ (allV m u k x n).1.length = m.length := by
  intro k
  induction k with
  | zero => intro x n hb hl h2; exact ⟨hm, rfl⟩
  | succ k ih =>
    intro x n hb hl h2
    obtain ⟨kb, kl⟩ := digit_keeps hb (by omega) u n
    unfold allV
    split
    · exact ⟨hm, rfl⟩
    · split
      · exact ⟨kb, by rw [kl, hl]⟩
      · exact ih _ _ kb (by rw [kl, hl]) h2
theorem endV_cell (m : List Int) (u : Int) : Cell (endV m u).1 ∧ Cell (endV m u).2.1 := by
  have z : Cell 0 := ⟨by decide, by decide⟩
  unfold endV
  split
  · rename_i ha
    obtain ⟨h0, h1⟩ := area_facts ha
    split
    · exact ⟨z, z⟩
    · split
      · exact ⟨z, z⟩
      · exact ⟨getV_cell _ _, by constructor <;> simp only <;> omega⟩
  · exact ⟨z, z⟩
theorem awake_run : (let x := allV (readyV 10) 0 129 (readyV 10) 255; let e := endV x.1 0; (decide (x.2.2.2 = 0), decide (x.2.1 = 0), decide (x.2.2.1 = 0), decide (e.2.2 = 0), decide (spanB x.1 e.1 e.2.1 = true), decide (bytesL ((x.1.drop e.1.toNat).take e.2.1.toNat) = [50, 53, 53]), decide (e.1 = 125))) = (true, true, true, true, true, true, true) := by decide +kernel
theorem p_awake : law10_awake = some true := by
  unfold law10_awake law10_awake_t
  rw [ready_eq ⟨by decide, by decide⟩]
  obtain ⟨rb, rl⟩ := ready_facts 10
  have hA := All_V rb (by omega) 0 (n := 255) (by decide)
  rw [show lo_ 255 = 255 from rfl, show hi_ 255 = 0 from rfl] at hA
  simp only [outOf]
  rw [hA]
  obtain ⟨kb, kl⟩ := all_keeps rb (u := 0) 129 (readyV 10) 255 rb rfl (by omega)
  have hr := awake_run
  simp only [Prod.mk.injEq, decide_eq_true_eq] at hr
  generalize allV (readyV 10) 0 129 (readyV 10) 255 = x at *
  simp only
  rw [End_eq kb (by omega)]
  obtain ⟨c1, c2⟩ := endV_cell x.1 0
  generalize endV x.1 0 = e at *
  simp only
  rw [Text_V (by omega) c1 c2]
  unfold textV
  obtain ⟨r1, r2, r3, r4, r5, r6, r7⟩ := hr
  rw [if_pos r5, r6, r1, r2, r3, r4, r7]
  simp only
  rw [show bytesOf [50, 53, 53] = bs [50, 53, 53] from rfl, same_bs]
  rfl
end Go.Proofs.Dbl

/- Plain facts: pictures in a memory of 128 bytes; PicHolds holds. -/
namespace Go.Proofs.Dbl
open Go Go.TX Go.Proofs
set_option maxRecDepth 100000
set_option maxHeartbeats 0
set_option linter.unusedVariables false
set_option linter.unusedSimpArgs false
/-- A picture is begun: a base, a place, and what lies behind it. -/
structure Pt (x : List Int) (b : Int) (h : Nat) (t : List Int) : Prop where
  bytes : Bytes x
  len : x.length = 128
  base : cellAt x 0 = b
  held : cellAt x 8 = (h : Int)
  lo : 32 ≤ h
  hi : h ≤ 128
  rest : x.drop h = t
section
variable {x t : List Int} {b : Int} {h : Nat} (p : Pt x b h t)
include p
end
end Go.Proofs.Dbl

/- Plain facts: all digits of a picture; PicTexts holds. -/
namespace Go.Proofs.Dbl
open Go Go.TX Go.Proofs
set_option maxRecDepth 100000
set_option maxHeartbeats 0
set_option linter.unusedVariables false
set_option linter.unusedSimpArgs false
end Go.Proofs.Dbl

/- Plain facts: digit by digit; PicSteps holds. -/
namespace Go.Proofs.Dbl
open Go Go.TX Go.Proofs
set_option maxRecDepth 100000
set_option maxHeartbeats 0
set_option linter.unusedVariables false
set_option linter.unusedSimpArgs false
/-- Nothing outside the area has turned. -/
def Out (u : Int) (m x : List Int) : Prop := x.length = m.length ∧ ∀ j : Nat, ((j : Int) < u ∨ u + 128 ≤ j) → x[j]? = m[j]?
theorem hold_out {m x : List Int} {u c : Int} (h : Out u m x) : Out u m (holdV x u c).1 := by
  unfold holdV
  split
  · rename_i ha
    obtain ⟨u0, u1⟩ := area_facts ha
    split
    · exact h
    · rename_i h2
      split
      · exact h
      · rename_i h3
        split
        · rename_i h4
          have hs : slot x (u + 8) = 0 := by
            unfold getV at h2
            split at h2
            · assumption
            · exact absurd (Decidable.byContradiction fun hn => h2 hn) (by assumption)
          obtain ⟨s1, s2, s3⟩ := slot_zero hs
          have h4' : 0 ≤ (getV x (u + 8)).1 - 1 ∧ (getV x (u + 8)).1 - 1 < x.length := of_decide_eq_true h4
          obtain ⟨q, hq⟩ : ∃ q, q = (getV x (u + 8)).1 - 1 := ⟨_, rfl⟩
          rw [← hq] at h4' ⊢
          have l1 : (put x (u + 8).toNat (word q)).length = x.length := put_length (by rw [word_length]; omega)
          have e1 : ([c % 256] : List Int).length = 1 := rfl
          refine ⟨by rw [put_length (by rw [l1, e1]; omega), l1]; exact h.1, fun j hj => ?_⟩
          have hb : ¬ (q.toNat ≤ j ∧ j < q.toNat + ([c % 256] : List Int).length) := by
            rw [e1]
            omega
          rw [put_get (by rw [l1, e1]; omega), if_neg hb, put_get (by rw [word_length]; omega), if_neg (by rw [word_length]; omega)]
          exact h.2 j hj
        · exact h
  · exact h
theorem digit_out {m x : List Int} {u : Int} {n : Nat} (h : Out u m x) : Out u m (digitV x u n).1 := by
  unfold digitV
  split
  · exact h
  · split
    · exact h
    · exact hold_out h
theorem all_out {m : List Int} {u : Int} : ∀ (k : Nat) (x : List Int) (n : Nat), Out u m x → Out u m (allV m u k x n).1 := by
  intro k
  induction k with
  | zero => intro x n h; exact ⟨rfl, fun _ _ => rfl⟩
  | succ k ih =>
    intro x n h
    unfold allV
    split
    · exact ⟨rfl, fun _ _ => rfl⟩
    · split
      · exact digit_out h
      · exact ih _ _ (digit_out h)
theorem s_M1 {i : Nat} (hi : i < 200) (b : Bool) : lawPSteps_M1 b (i : Int) = some (if b = true then .inr () else .inl ()) := by
  unfold lawPSteps_M1 lawPSteps_M1_t
  rw [decide_eq_true (show (i : Int) < 200 by omega)]
  cases b <;> rfl
/-- One digit: as it is told of all. -/
theorem s_stop {m X x y : List Int} {u l h : Int} {i : Nat} (hi : i < 200) {e : Int} (he : e ≠ 0) (hD : pic_Digit x u l h = some (x, 0, 0, e)) (hX : X = m) :
    lawPSteps_L1_pass (m, u, true, X, e, x, false, (i : Int), 0, 0, l, h) = some (.inr (.inl true)) := by
  subst hX
  unfold lawPSteps_L1_pass lawPSteps_L1_t
  simp only
  rw [s_M1 hi]
  simp only [outOf, Bool.false_eq_true, if_false, sumOf]
  rw [hD]
  have h1 : (ByteArray.toList (strOf X) == ByteArray.toList (strOf X)) = true := beq_self_eq_true _
  have h2 : (ByteArray.toList (strOf x) == ByteArray.toList (strOf x)) = true := beq_self_eq_true _
  have h3 : (e == e) = true := beq_self_eq_true _
  simp only
  rw [bne_iff_ne.2 he, h1, h2, h3]
  rfl
theorem s_next {m X x x' : List Int} {u e q0 q1 l h l' h' : Int} {i : Nat} (hi : i < 200) (hD : pic_Digit x u l h = some (x', l', h', 0)) :
    lawPSteps_L1_pass (m, u, true, X, e, x, false, (i : Int), q0, q1, l, h) = some (.inl (m, u, true, X, e, x', (l' == (0 : Int) && (h' == (0 : Int) && true)), ((i + 1 : Nat) : Int), q0, q1, l', h')) := by
  have w2 : IntKind.wrap IntKind.i64 ((i : Int) + 1) = ((i + 1 : Nat) : Int) := by rw [wi, W_of ⟨by omega, by omega⟩]; omega
  unfold lawPSteps_L1_pass lawPSteps_L1_t
  simp only
  rw [s_M1 hi]
  simp only [outOf, Bool.false_eq_true, if_false, sumOf]
  rw [hD, w2]
  rfl
theorem s_done {m X x : List Int} {u e q0 q1 l h : Int} {i : Nat} (hi : i < 200) :
    lawPSteps_L1_pass (m, u, true, X, e, x, true, (i : Int), q0, q1, l, h) = some (.inr (.inr (m, u, true, X, e, x, true, q0, q1))) := by
  unfold lawPSteps_L1_pass lawPSteps_L1_t
  simp only
  rw [s_M1 hi]
  rfl
theorem s_loop {m : List Int} {u : Int} {r : List Int × Int × Int × Int} : ∀ (k : Nat) (x : List Int) (n i : Nat), Bytes x → x.length ≤ 2147483648 → n < 2 ^ k → k + i ≤ 128 → r = allV m u (k + 1) x n →
    lawPSteps_L1 (m, u, true, r.1, r.2.2.2, x, false, (i : Int), r.2.1, r.2.2.1, lo_ n, hi_ n) = some (.inl true) ∨
    (lawPSteps_L1 (m, u, true, r.1, r.2.2.2, x, false, (i : Int), r.2.1, r.2.2.1, lo_ n, hi_ n) = some (.inr (m, u, true, r.1, r.2.2.2, r.1, true, r.2.1, r.2.2.1)) ∧ r = (r.1, 0, 0, 0)) := by
  intro k
  induction k with
  | zero =>
    intro x n i hb hx hn hk hr
    have hn0 : n = 0 := by simpa using hn
    have hn' := pow_big hn (by omega)
    have hD := Digit_V hb hx u hn'
    by_cases he : (digitV x u n).2.2.2 = 0
    · obtain ⟨b, b1, b2, eb, _, ed, _, _⟩ := digit_ok he
      have hq : n / b < 340282366920938463463374607431768211456 := Nat.lt_of_le_of_lt (Nat.div_le_self _ _) hn'
      have h0 : n / b = 0 := by rw [hn0]; exact Nat.zero_div b
      rw [ed] at hD
      rw [allV_end he eb h0] at hr
      have hp := s_next (m := m) (X := r.1) (e := r.2.2.2) (q0 := r.2.1) (q1 := r.2.2.1) (i := i) (by omega) hD
      rw [lohi_zero hq, decide_eq_true h0] at hp
      refine .inr ⟨?_, by rw [hr]⟩
      refine (runs_next hp).trans ((runs_out (s_done (by omega))).trans ?_)
      rw [hr]
    · rw [allV_err he] at hr
      left
      have ee := digit_err he
      rw [ee] at hD
      rw [hr]
      exact runs_out (s_stop (y := x) (by omega) he hD rfl)
  | succ k ih =>
    intro x n i hb hx hn hk hr
    have hn' := pow_big hn (by omega)
    have hD := Digit_V hb hx u hn'
    obtain ⟨kb, kl⟩ := digit_keeps hb hx u n
    by_cases he : (digitV x u n).2.2.2 = 0
    · obtain ⟨b, b1, b2, eb, _, ed, _, _⟩ := digit_ok he
      have hq : n / b < 340282366920938463463374607431768211456 := Nat.lt_of_le_of_lt (Nat.div_le_self _ _) hn'
      rw [ed] at hD
      have hp := s_next (m := m) (X := r.1) (e := r.2.2.2) (q0 := r.2.1) (q1 := r.2.2.1) (i := i) (by omega) hD
      by_cases h0 : n / b = 0
      · rw [allV_end he eb h0] at hr
        rw [lohi_zero hq, decide_eq_true h0] at hp
        refine .inr ⟨?_, by rw [hr]⟩
        refine (runs_next hp).trans ((runs_out (s_done (by omega))).trans ?_)
        rw [hr]
      · rw [allV_next he eb h0] at hr
        rw [lohi_zero hq, decide_eq_false h0] at hp
        rcases ih _ (n / b) (i + 1) kb (by omega) (half_lt b1 hn) (by omega) hr with h | ⟨h, h2⟩
        · exact .inl ((runs_next hp).trans h)
        · exact .inr ⟨(runs_next hp).trans h, h2⟩
    · rw [allV_err he] at hr
      left
      have ee := digit_err he
      rw [ee] at hD
      rw [hr]
      exact runs_out (s_stop (y := x) (by omega) he hD rfl)
theorem s_L2 {m X : List Int} {u e q0 q1 : Int} {at_ : List Int} (hm : m.length ≤ 700) (hu : Cell u) (h : Out u m X) : lawPSteps_L2 (m, u, true, X, e, at_, true, 0, q0, q1) = some (.inr (true, X, e, at_, true, q0, q1)) := by
  have hl := h.1
  unfold Cell at hu
  unfold lawPSteps_L2
  refine runs_all (fun j : Nat => ((m, u, true, X, e, at_, true, (j : Int), q0, q1) : lawPSteps_L2_D)) m.length (fun j hj => ?_) ?_
  · show lawPSteps_L2_pass (m, u, true, X, e, at_, true, (j : Int), q0, q1) = _
    have w2 : IntKind.wrap IntKind.i64 ((j : Int) + 1) = ((j + 1 : Nat) : Int) := by rw [wi, W_of ⟨by omega, by omega⟩]; omega
    have m2 : lawPSteps_M2 m X (j : Int) = some (.inl ()) := by
      unfold lawPSteps_M2 lawPSteps_M2_t
      rw [decide_eq_true (show (j : Int) < (m.length : Int) by omega), decide_eq_true (show (j : Int) < (X.length : Int) by omega)]; rfl
    unfold lawPSteps_L2_pass lawPSteps_L2_t
    simp only
    rw [m2]
    simp only [outOf, sumOf]
    rw [decide_eq_true (show (0 : Int) ≤ j ∧ (j : Int) < (X.length : Int) by omega), decide_eq_true (show (0 : Int) ≤ j ∧ (j : Int) < (m.length : Int) by omega), Int.toNat_natCast, w2]
    simp only [cond_true]
    by_cases hd : X.getD j 0 = m.getD j 0
    · rw [bne_eq_false_iff_eq.2 hd]; rfl
    · rw [bne_iff_ne.2 hd]
      have hin : ¬ ((j : Int) < u ∨ u + 128 ≤ j) := fun hh => hd (by rw [List.getD_eq_getElem?_getD, List.getD_eq_getElem?_getD, h.2 j hh])
      have w3 : IntKind.wrap IntKind.i64 ((j : Int) - u) = (j : Int) - u := by rw [wi, W_of ⟨by omega, by omega⟩]
      rw [decide_eq_false (show ¬ (j : Int) < u by omega), w3, decide_eq_false (show ¬ (j : Int) - u ≥ 128 by omega)]
      rfl
  · show lawPSteps_L2_pass (m, u, true, X, e, at_, true, (m.length : Int), q0, q1) = _
    have m2 : lawPSteps_M2 m X (m.length : Int) = some (.inr ()) := by
      unfold lawPSteps_M2 lawPSteps_M2_t
      rw [decide_eq_false (by omega)]; rfl
    unfold lawPSteps_L2_pass lawPSteps_L2_t
    simp only
    rw [m2]
    rfl
theorem psteps_eq {m : List Int} (hb : Bytes m) {u lo hi : Int} (hu : Cell u) (hl : Cell lo) (hh : Cell hi) : lawPSteps m u lo hi = some true := by
  unfold lawPSteps lawPSteps_t
  rw [p_awake]
  simp only [outOf]
  by_cases hs : (m.length : Int) > 700
  · rw [decide_eq_true hs]; rfl
  · rw [decide_eq_false hs]
    have hm : m.length ≤ 2147483648 := by omega
    simp only [cond_false]
    obtain ⟨e1, e2⟩ := un_parts hl hh
    have hn := un_lt lo hi
    have hA := All_V hb hm u hn
    obtain ⟨r, hr⟩ : ∃ r, r = allV m u 129 m (un lo hi) := ⟨_, rfl⟩
    rw [← hr, e1, e2] at hA
    rw [hA]
    simp only
    have lp := s_loop (m := m) (u := u) (r := r) 128 m (un lo hi) 0 hb hm (by rw [two128]; exact hn) (by omega) hr
    rw [e1, e2] at lp
    have ho : Out u m r.1 := by rw [hr]; exact all_out 129 m _ ⟨rfl, fun _ _ => rfl⟩
    rw [show (((0 : Nat) : Int)) = 0 from rfl] at lp
    clear hr hA e1 e2 hn
    rcases lp with h | ⟨h, h2⟩
    · rw [h]; rfl
    · rw [h]
      simp only [sumOf]
      have l2 := s_L2 (e := r.2.2.2) (q0 := r.2.1) (q1 := r.2.2.1) (at_ := r.1) (by omega) hu ho
      rw [l2]
      obtain ⟨X, q0, q1, e⟩ := r
      simp only [Prod.mk.injEq, true_and] at h2
      obtain ⟨rfl, rfl, rfl⟩ := h2
      have h1 : (ByteArray.toList (strOf X) == ByteArray.toList (strOf X)) = true := beq_self_eq_true _
      simp only
      rw [h1]
      rfl
end Go.Proofs.Dbl
