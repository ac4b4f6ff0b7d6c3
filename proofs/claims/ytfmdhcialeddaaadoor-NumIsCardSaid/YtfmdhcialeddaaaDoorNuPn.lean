/- Plain facts: NumCase, NumBack and NumForm hold. -/
import Derived.Test.YtfmdhcialeddaaaDoorNuPm
import Derived.Test.YtfmdhcialeddaaaDoorNuXF
namespace Go.Proofs.Dbl
open Go Go.TX Go.Proofs
set_option maxRecDepth 100000
set_option maxHeartbeats 0
set_option linter.unusedVariables false
set_option linter.unusedSimpArgs false

theorem and_31 (x : Int) : 0 ≤ ibits .and .i64 x 31 ∧ ibits .and .i64 x 31 ≤ 31 := by
  rw [ibits_def]
  show 0 ≤ IntKind.wrap .i64 (((BitVec.ofInt 64 x &&& BitVec.ofInt 64 31).toNat : Nat) : Int) ∧ IntKind.wrap .i64 (((BitVec.ofInt 64 x &&& BitVec.ofInt 64 31).toNat : Nat) : Int) ≤ 31
  have h : (BitVec.ofInt 64 x &&& BitVec.ofInt 64 31).toNat ≤ 31 := by
    rw [BitVec.toNat_and]
    have : (BitVec.ofInt 64 31).toNat = 31 := by decide
    rw [this]
    exact Nat.and_le_right
  rw [wi, W_of ⟨by omega, by omega⟩]
  omega

/-- The two texts of nought are one. -/
theorem nought (b : Int) : ∃ l, num_DText 0 0 b = some (bs l) ∧ num_Text 0 b = some (bs l) := by
  by_cases h : 2 ≤ b ∧ b ≤ 36
  · obtain ⟨n, rfl⟩ : ∃ n : Nat, b = n := ⟨b.toNat, by omega⟩
    have c0 : Cell 0 := ⟨by decide, by decide⟩
    exact ⟨_, DText_eq (by omega) (by omega) c0 c0, Text_eq (by omega) (by omega) c0⟩
  · exact ⟨_, DText_bad h 0 0, Text_bad h 0⟩

theorem same_bs (l : List UInt8) : (ByteArray.toList (bs l) == ByteArray.toList (bs l)) = true := by
  rw [bs_toList]; exact beq_self_eq_true l

theorem case_M1 (b : Int) : lawCase_M1 b = some (goodB b) := by
  unfold lawCase_M1 lawCase_M1_t goodB
  by_cases h : 2 ≤ b
  · rw [decide_eq_true h]
    by_cases h2 : b ≤ 36
    · rw [decide_eq_true h2, decide_eq_true (show 2 ≤ b ∧ b ≤ 36 from ⟨h, h2⟩)]; rfl
    · rw [decide_eq_false h2, decide_eq_false (fun hh : 2 ≤ b ∧ b ≤ 36 => h2 hh.2)]; rfl
  · rw [decide_eq_false h, decide_eq_false (fun hh : 2 ≤ b ∧ b ≤ 36 => h hh.1)]; rfl

theorem case_parse {c b : Int} (h0 : 0 ≤ c) (h1 : c ≤ 255) : num_Parse (strOf [39, c, 39]) b = some (if goodB b = true then ([c], true) else ([], false)) := by
  have e : strOf [39, c, 39] = bs [39, UInt8.ofNat c.toNat, 39] := rfl
  rw [e, parsed (by simp)]
  unfold parse'
  have q : quoted [39, UInt8.ofNat c.toNat, 39] = true := rfl
  rw [q]
  by_cases hg : goodB b = true
  · rw [if_pos hg, if_pos hg, if_pos rfl]
    have : (((([39, UInt8.ofNat c.toNat, 39] : List UInt8).getD 1 0).toNat : Nat) : Int) = c := by
      show ((UInt8.ofNat c.toNat).toNat : Int) = c
      rw [UInt8.toNat_ofNat']
      omega
    rw [this]
  · rw [if_neg hg, if_neg hg]

theorem case_dig {x b : Int} (h0 : 0 ≤ x) (h1 : x ≤ 31) : dig (64 + x) b = dig (96 + x) b ∧ (1 ≤ x → x ≤ 26 → dig (64 + x) b = if goodB b = true ∧ x + 9 < b then some (x + 9) else none) := by
  have w1 : worth (64 + x) = if 1 ≤ x ∧ x ≤ 26 then x + 9 else -1 := by
    unfold worth
    rw [if_neg (by omega)]
    split
    · split <;> omega
    · split <;> split <;> omega
  have w2 : worth (96 + x) = if 1 ≤ x ∧ x ≤ 26 then x + 9 else -1 := by
    unfold worth
    rw [if_neg (by omega), if_neg (by omega)]
    split <;> split <;> omega
  unfold dig
  rw [w1, w2]
  refine ⟨rfl, fun a1 a2 => ?_⟩
  have e : (if 1 ≤ x ∧ x ≤ 26 then x + 9 else -1) = x + 9 := if_pos ⟨a1, a2⟩
  rw [e]
  by_cases h : goodB b = true ∧ x + 9 < b
  · rw [if_pos h, if_pos (show goodB b = true ∧ 0 ≤ x + 9 ∧ x + 9 < b from ⟨h.1, by omega, h.2⟩)]
  · rw [if_neg h, if_neg (fun hh : goodB b = true ∧ 0 ≤ x + 9 ∧ x + 9 < b => h ⟨hh.1, hh.2.2⟩)]

theorem case_M2 {c b : Int} (h0 : 0 ≤ c) (h1 : c ≤ 255) : lawCase_M2 c (if goodB b = true then ([c], true) else ([], false)).1 (if goodB b = true then ([c], true) else (([] : List Int), false)).2 (goodB b) = some (.inr ()) := by
  cases goodB b with
  | true =>
    have w : IntKind.wrap IntKind.i64 c = c := by rw [wi, W_of ⟨by omega, by omega⟩]
    unfold lawCase_M2 lawCase_M2_t
    simp only [if_true]
    rw [w]
    have : (List.getD [c] (0 : Nat) (0 : Int) != c) = false := by
      show (c != c) = false
      exact bne_self_eq_false c
    rw [this]
    rfl
  | false => rfl

theorem case_eq {c b : Int} (h0 : 0 ≤ c) (h1 : c ≤ 255) : lawCase c b = some true := by
  unfold lawCase lawCase_t
  rw [awake_eq]
  simp only [outOf]
  obtain ⟨x0, x1⟩ := and_31 (IntKind.wrap IntKind.i64 c)
  generalize ibits BinOp.and IntKind.i64 (IntKind.wrap IntKind.i64 c) 31 = x at *
  have w1 : IntKind.wrap IntKind.i64 (64 + x) = 64 + x := by rw [wi, W_of ⟨by omega, by omega⟩]
  have w2 : IntKind.wrap IntKind.i64 (96 + x) = 96 + x := by rw [wi, W_of ⟨by omega, by omega⟩]
  have w3 : IntKind.wrap IntKind.i64 (x + 9) = x + 9 := by rw [wi, W_of ⟨by omega, by omega⟩]
  rw [w1, w2, w3, Digit_eq (show Cell (64 + x) from ⟨by omega, by omega⟩), Digit_eq (show Cell (96 + x) from ⟨by omega, by omega⟩)]
  simp only [outOf]
  obtain ⟨d1, d2⟩ := case_dig (b := b) x0 x1
  rw [case_parse h0 h1]
  simp only [outOf]
  rw [case_M1]
  simp only [outOf]
  rw [case_M2 h0 h1, ← d1]
  simp only [sumOf, cond_true]
  obtain ⟨l, t1, t2⟩ := nought b
  rw [t1, t2]
  simp only [outOf]
  rw [same_bs]
  by_cases hx : x = 0
  · have : (x == 0) = true := by rw [beq_iff_eq]; exact hx
    rw [this]; rfl
  · have : (x == 0) = false := by rw [beq_eq_false_iff_ne]; exact hx
    rw [this]
    simp only [cond_false]
    by_cases hy : x > 26
    · rw [decide_eq_true hy]; rfl
    · rw [decide_eq_false hy, d2 (by omega) (by omega), beq_self_eq_true, beq_self_eq_true]
      simp only [cond_false, cond_true]
      cases hg : goodB b with
      | true =>
        by_cases h9 : x + 9 < b
        · rw [if_pos ⟨rfl, h9⟩, decide_eq_true h9]; rfl
        · rw [if_neg (fun hh => h9 hh.2), decide_eq_false h9]; rfl
      | false =>
        rw [if_neg (fun hh => by cases hh.1)]; rfl

/-! ### NumBack -/

theorem back_M1 (b : Int) : lawBack_M1 b = some (!goodB b) := by
  unfold lawBack_M1 lawBack_M1_t goodB
  by_cases h : b < 2
  · rw [decide_eq_true h, decide_eq_false (fun hh : 2 ≤ b ∧ b ≤ 36 => by omega)]; rfl
  · rw [decide_eq_false h]
    by_cases h2 : b > 36
    · rw [decide_eq_true h2, decide_eq_false (fun hh : 2 ≤ b ∧ b ≤ 36 => by omega)]; rfl
    · rw [decide_eq_false h2, decide_eq_true (show 2 ≤ b ∧ b ≤ 36 from ⟨by omega, by omega⟩)]; rfl

theorem parse_bad_base {b : Int} (h : goodB b = false) (l : List UInt8) : parse' l b = ([], false) := by
  unfold parse'; rw [h]; rfl

theorem back_bad {n lo hi b : Int} (hb : goodB b = false) : lawBack_M2 n b true lo hi = some (.inl true) := by
  have hb' : ¬ (2 ≤ b ∧ b ≤ 36) := of_decide_eq_false hb
  unfold lawBack_M2 lawBack_M2_t
  rw [back_M1, hb]
  simp only [outOf, Bool.not_false, cond_true]
  rw [bytesOf_bs, parsed (by simp), parse_bad_base hb]
  simp only [outOf, cond_true]
  rw [Text_bad hb', UText_bad hb', DText_bad hb']
  simp only [outOf]
  rw [show bytesOf [] = bs [] from rfl, same_bs]
  rfl

theorem back_good {n lo hi b : Int} (hb : goodB b = true) : lawBack_M2 n b true lo hi = some (.inr ()) := by
  unfold lawBack_M2 lawBack_M2_t
  rw [back_M1, hb]
  rfl

theorem ends_app (t : List UInt8) (q : UInt8) : ends (t ++ [q]) [q] = true := by
  unfold ends
  rw [decide_eq_true (by simp)]
  simp

theorem starts_app {t : List UInt8} {q x : UInt8} (h0 : t ≠ []) : starts (t ++ [q]) [x] = starts t [x] := by
  cases t with
  | nil => exact absurd rfl h0
  | cons y r => simp [starts]

theorem tail_point (t : List UInt8) : (t ++ [46]).take ((t ++ [46]).length - 1) = t := by simp

/-- A double number's text, with its point behind it. -/
theorem num_double {t : List UInt8} {b v : Int} (h0 : t ≠ []) (hp : ∀ x ∈ t, Plain x) (hd : dfold b t 0 = some v) : numOf' (t ++ [46]) b = ([W v, W (v / 18446744073709551616)], true) := by
  obtain ⟨p1, p2, p3, p4, p5, p6⟩ := plain_ends hp
  unfold numOf' numW
  rw [starts_app h0, p5]
  simp only [Bool.false_eq_true, if_false]
  rw [ends_app]
  simp only [if_true]
  rw [tail_point, hd]
  simp only [h0, if_false]

theorem num_double_minus {t : List UInt8} {b v : Int} (h0 : t ≠ []) (hp : ∀ x ∈ t, Plain x) (hd : dfold b t 0 = some v) : numOf' (45 :: (t ++ [46])) b = ([W (-v), W (-v / 18446744073709551616)], true) := by
  unfold numOf' numW
  rw [starts_cons]
  simp only [beq_self_eq_true, if_true, List.drop_succ_cons, List.drop_zero]
  rw [ends_app]
  simp only [if_true]
  rw [tail_point, hd]
  simp only [h0, if_false]

theorem parse_double {t : List UInt8} {b v : Int} (hb : goodB b = true) (h0 : t ≠ []) (hp : ∀ x ∈ t, Plain x) (hd : dfold b t 0 = some v) : parse' (t ++ [46]) b = ([W v, W (v / 18446744073709551616)], true) := by
  obtain ⟨h1, h2, h3, h4, _, _⟩ := plain_ends hp
  unfold parse'
  have hq : quoted (t ++ [46]) = false := by unfold quoted; rw [starts_app h0, h4]; simp
  have hpre : pre (t ++ [46]) b = (t ++ [46], b) := by
    unfold pre
    rw [starts_app h0, starts_app h0, starts_app h0, h1, h2, h3]
    rfl
  rw [hb, hq, hpre]
  simp only [if_true, Bool.false_eq_true, if_false]
  exact num_double h0 hp hd

theorem parse_double_minus {t : List UInt8} {b v : Int} (hb : goodB b = true) (h0 : t ≠ []) (hp : ∀ x ∈ t, Plain x) (hd : dfold b t 0 = some v) : parse' (45 :: (t ++ [46])) b = ([W (-v), W (-v / 18446744073709551616)], true) := by
  unfold parse'
  have hq : quoted (45 :: (t ++ [46])) = false := by unfold quoted; rw [starts_cons]; simp
  have hpre : pre (45 :: (t ++ [46])) b = (45 :: (t ++ [46]), b) := by
    unfold pre
    rw [starts_cons, starts_cons, starts_cons]
    rfl
  rw [hb, hq, hpre]
  simp only [if_true, Bool.false_eq_true, if_false]
  exact num_double_minus h0 hp hd

theorem caps_length (b : Nat) {k n : Nat} (h : n < 2 ^ k) : (caps b n).length ≤ k + 1 := by
  unfold caps Lib.toUpperA
  rw [List.length_map]
  exact digs_length b k n h

theorem two64 : (2 : Nat) ^ 64 = 18446744073709551616 := by decide +kernel

theorem signed_parse {B : Nat} (h1 : 2 ≤ B) (h2 : B ≤ 36) {v : Int} (hv : v.natAbs < 2 ^ 128) : num_Parse (bs ((if v < 0 then [45] else []) ++ caps B v.natAbs)) (B : Int) = some ([W v], true) := by
  have g : goodB (B : Int) = true := decide_eq_true (by omega)
  have hl := caps_length B hv
  by_cases h : v < 0
  · rw [if_pos h, parsed (by simp; omega)]
    have := parse_minus g (caps_ne B v.natAbs) (caps_plain h1 h2) (dfold_caps h1 h2 v.natAbs)
    rw [show -(v.natAbs : Int) = v by omega] at this
    exact congrArg some this
  · rw [if_neg h, parsed (by simp; omega)]
    have := parse_plain g (caps_ne B v.natAbs) (caps_plain h1 h2) (dfold_caps h1 h2 v.natAbs)
    rw [show (v.natAbs : Int) = v by omega] at this
    exact congrArg some this

theorem double_parse {B : Nat} (h1 : 2 ≤ B) (h2 : B ≤ 36) {v : Int} (hv : v.natAbs < 2 ^ 128) : num_Parse (bs (((if v < 0 then [45] else []) ++ caps B v.natAbs) ++ [46])) (B : Int) = some ([W v, W (v / 18446744073709551616)], true) := by
  have g : goodB (B : Int) = true := decide_eq_true (by omega)
  have hl := caps_length B hv
  by_cases h : v < 0
  · rw [if_pos h, parsed (by simp; omega)]
    have := parse_double_minus g (caps_ne B v.natAbs) (caps_plain h1 h2) (dfold_caps h1 h2 v.natAbs)
    rw [show -(v.natAbs : Int) = v by omega] at this
    exact congrArg some this
  · rw [if_neg h, parsed (by simp; omega)]
    have := parse_double g (caps_ne B v.natAbs) (caps_plain h1 h2) (dfold_caps h1 h2 v.natAbs)
    rw [show (v.natAbs : Int) = v by omega] at this
    exact congrArg some this

theorem back_eq {n lo hi b : Int} (hn : Cell n) (hl : Cell lo) (hh : Cell hi) : lawBack n lo hi b = some true := by
  unfold lawBack lawBack_t
  rw [awake_eq]
  simp only [outOf]
  cases hb : goodB b with
  | false => rw [back_bad hb]; rfl
  | true =>
    rw [back_good hb]
    simp only [sumOf]
    obtain ⟨g1, g2⟩ := of_decide_eq_true hb
    obtain ⟨B, rfl⟩ : ∃ B : Nat, b = B := ⟨b.toNat, by omega⟩
    have b1 : 2 ≤ B := by omega
    have b2 : B ≤ 36 := by omega
    rw [Text_eq b1 b2 hn]
    simp only [outOf]
    rw [signed_parse b1 b2 (by rw [two128]; unfold Cell at hn; omega), W_of hn]
    simp only [outOf]
    rw [UText_eq b1 b2 n]
    simp only [outOf]
    have hu := signed_parse b1 b2 (v := n % 18446744073709551616) (by rw [two128]; omega)
    have hnn : ¬ n % 18446744073709551616 < 0 := by omega
    rw [if_neg hnn, List.nil_append, show (n % 18446744073709551616).natAbs = (n % 18446744073709551616).toNat by omega, W_mod, W_of hn] at hu
    rw [hu]
    simp only [outOf]
    rw [DText_eq b1 b2 hl hh]
    simp only [outOf]
    obtain ⟨r1, r2⟩ := S_range hl hh
    have hs := Pd_S hl hh
    have hv : (S lo hi).natAbs < 2 ^ 128 := by rw [two128]; omega
    have hlen := caps_length B hv
    have hd := double_parse b1 b2 hv
    have e : bs ((if S lo hi < 0 then [45] else []) ++ caps B (S lo hi).natAbs) ++ bytesOf [46] = bs (((if S lo hi < 0 then [45] else []) ++ caps B (S lo hi).natAbs) ++ [46]) := by
      rw [show bytesOf [46] = bs [46] from rfl, bs_append]
    have hz : decide (((bs ((if S lo hi < 0 then [45] else []) ++ caps B (S lo hi).natAbs)).size + 1 : Nat) > (9223372036854775807 : Int)) = false := by
      rw [bs_size, List.length_append]
      refine decide_eq_false ?_
      split <;> simp <;> omega
    rw [hz]
    simp only [cond_false]
    rw [e, hd]
    obtain ⟨e1, e2⟩ := Prod.mk.inj (show (W (S lo hi), W (S lo hi / 18446744073709551616)) = (lo, hi) from hs)
    rw [e1, e2]
    clear hd e hz hu hv hlen
    simp only [outOf, cond_true]
    simp only [one_eq, one_ok, cond_true, List.length_singleton, List.length_cons, List.length_nil]
    have q1 : (List.getD [lo, hi] 0 0 == lo) = true := beq_self_eq_true lo
    have q2 : (List.getD [lo, hi] 1 0 == hi) = true := beq_self_eq_true hi
    rw [q1, q2]
    rfl

end Go.Proofs.Dbl
