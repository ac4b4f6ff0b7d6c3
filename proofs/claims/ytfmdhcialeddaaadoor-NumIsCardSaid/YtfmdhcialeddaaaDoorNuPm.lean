/- Plain facts: the text of a number with a sign; the text of a double. -/
import Derived.Test.YtfmdhcialeddaaaDoorNuPi
import Derived.Test.YtfmdhcialeddaaaDoorNuPl
namespace Go.Proofs.Dbl
open Go Go.TX Go.Proofs
set_option maxRecDepth 100000
set_option maxHeartbeats 0
set_option linter.unusedVariables false
set_option linter.unusedSimpArgs false

theorem Text_eq {b : Nat} (h1 : 2 ≤ b) (h2 : b ≤ 36) {n : Int} (hn : Cell n) : num_Text n (b : Int) = some (bs ((if n < 0 then [45] else []) ++ caps b n.natAbs)) := by
  by_cases h10 : b = 10
  · subst h10
    unfold num_Text num_Text_t
    have hg : goodB ((10 : Nat) : Int) = true := rfl
    rw [good_eq, hg]
    simp only [outOf, Bool.not_true, cond_false]
    rw [show (((10 : Nat) : Int)) = 10 from rfl, fmtInt_ten hn]
    simp only [outOf]
    have hl : (digs 10 n.natAbs).length ≤ 65 := digs_length 10 64 _ (by unfold Cell at hn; omega)
    rw [upper_ok (l := (if n < 0 then [45] else []) ++ digs 10 n.natAbs) (fun c hc => by
      rcases List.mem_append.1 hc with h | h
      · split at h
        · simp only [List.mem_singleton] at h; subst h; decide
        · cases h
      · exact digs_ascii _ _ c h) (by
      simp only [List.length_append]
      split <;> simp <;> omega)]
    simp only [cond_true]
    rw [upperS_bs]
    unfold caps
    split <;> rfl
  · exact Text_ne h1 h2 h10 hn

/-! ### Double numbers -/

/-- Texts of one sign each. -/
def ones (t : List UInt8) : List ByteArray := t.map fun c => bs [c]

theorem ones_data (t : List UInt8) : (ones t).map (fun x : ByteArray => x.data.toList) = t.map fun c => [c] := by
  unfold ones; rw [List.map_map]; rfl

theorem flat_ones (t : List UInt8) : (t.map fun c => [c]).flatten = t := by
  induction t with
  | nil => rfl
  | cons x t ih => simp only [List.map_cons, List.flatten_cons, ih]; rfl

theorem join_ones (t : List UInt8) : Lib.join (t.map fun c => [c]) [] = t := by
  cases t with
  | nil => rfl
  | cons x r =>
    rw [List.map_cons, Lib.join_cons]
    unfold Lib.joinTail
    have : (fun x : List UInt8 => ([] : List UInt8) ++ x) = id := rfl
    rw [this, List.map_id, flat_ones]
    rfl

theorem joinS_ones (t : List UInt8) : joinS (ones t) (bytesOf []) = bs t := by
  unfold joinS
  rw [ones_data, show (bytesOf []).data.toList = [] from rfl, join_ones]
  rfl

theorem joinSize_ones (t : List UInt8) : joinSize (ones t) (bytesOf []) = t.length := by
  unfold joinSize
  rw [ones_data, show (bytesOf []).data.toList = [] from rfl, join_ones]

/-- The low and the high half of a number without a sign. -/
def lo_ (u : Nat) : Int := W (u : Int)
def hi_ (u : Nat) : Int := W ((u : Int) / 18446744073709551616)

theorem low_of (q : Nat) : IntKind.wrap IntKind.i64 ((q : Int) - (q : Int) / 18446744073709551616 * 18446744073709551616) = lo_ q := by
  rw [wi]; unfold lo_; rw [W_eq]; omega

theorem zero_of {q : Nat} (h : q < 340282366920938463463374607431768211456) : lo_ q = 0 ∧ hi_ q = 0 ↔ q = 0 := by
  unfold lo_ hi_ W; omega

theorem un_pass {b : Nat} (b1 : 2 ≤ b) (b2 : b ≤ 36) {u : Nat} (hu : u < 340282366920938463463374607431768211456) {t : List UInt8} (ht : t.length ≤ 1000) :
    num_unsigned_L1_pass (ones t, (b : Int), lo_ u, hi_ u) =
      if u < b then some (.inr (bs (cap u :: t))) else some (.inl (ones (cap (u % b) :: t), (b : Int), lo_ (u / b), hi_ (u / b))) := by
  unfold num_unsigned_L1_pass num_unsigned_L1_t
  simp only
  have el : IntKind.wrap IntKind.u64 (lo_ u) = (u : Int) % 18446744073709551616 := by unfold lo_; rw [wu, mod_W]
  have eh : IntKind.wrap IntKind.u64 (hi_ u) = (u : Int) / 18446744073709551616 := by
    unfold hi_; rw [wu, mod_W]; exact Int.emod_eq_of_lt (by omega) (by omega)
  have hb0 : decide ((b : Int) = 0) = false := decide_eq_false (by omega)
  rw [el, eh, hb0]
  simp only [cond_false]
  have hH0 : (0 : Int) ≤ (u : Int) / 18446744073709551616 := by omega
  rw [Int.tmod_eq_emod_of_nonneg hH0, Int.tdiv_eq_ediv_of_nonneg hH0]
  have hm0 : 0 ≤ (u : Int) / 18446744073709551616 % b := Int.emod_nonneg _ (by omega)
  have hm1 : (u : Int) / 18446744073709551616 % b < b := Int.emod_lt_of_pos _ (by omega)
  rw [div64_eq b1 b2 hm0 hm1 (by omega) (by omega)]
  -- quotients
  have key : ((u : Int) / 18446744073709551616 % b * 18446744073709551616 + (u : Int) % 18446744073709551616) = (u : Int) - b * (((u : Int) / 18446744073709551616 / b) * 18446744073709551616) := by
    have h := Int.emod_add_mul_ediv ((u : Int) / 18446744073709551616) b
    have h' := Int.emod_add_mul_ediv (u : Int) 18446744073709551616
    rw [← Int.mul_assoc]
    generalize (b : Int) * ((u : Int) / 18446744073709551616 / b) = z at *
    omega
  have er : ((u : Int) / 18446744073709551616 % b * 18446744073709551616 + (u : Int) % 18446744073709551616) % b = ((u % b : Nat) : Int) := by
    rw [key, Int.sub_mul_emod_self_left]; exact (Int.natCast_emod u b).symm
  have eq' : ((u : Int) / 18446744073709551616 % b * 18446744073709551616 + (u : Int) % 18446744073709551616) / b = (u : Int) / b - ((u : Int) / 18446744073709551616 / b) * 18446744073709551616 := by
    rw [key, Int.sub_mul_ediv_left _ _ (by omega)]
  have eqh : (u : Int) / 18446744073709551616 / b = (u : Int) / b / 18446744073709551616 := by
    rw [Int.ediv_ediv_of_nonneg (by omega), Int.ediv_ediv_of_nonneg (by omega), Int.mul_comm]
  rw [er, eq', eqh]
  simp only [outOf]
  have hub : ((u : Int) / b) = ((u / b : Nat) : Int) := (Int.natCast_ediv u b).symm
  rw [hub]
  have w1 : IntKind.wrap IntKind.i64 ((u % b : Nat) : Int) = ((u % b : Nat) : Int) := by
    have := Nat.mod_lt u (show 0 < b by omega)
    rw [wi, W_of ⟨by omega, by omega⟩]
  have w2 : IntKind.wrap IntKind.i64 (((u / b : Nat) : Int) - ((u / b : Nat) : Int) / 18446744073709551616 * 18446744073709551616) = lo_ (u / b) := by
    exact low_of (u / b)
  have hd : u / b ≤ u := Nat.div_le_self _ _
  have w3 : IntKind.wrap IntKind.i64 (IntKind.wrap IntKind.u64 (((u / b : Nat) : Int) / 18446744073709551616)) = hi_ (u / b) := by
    unfold hi_; rw [wi, wu, W_mod]
  have hsl : u % b < 36 := by have := Nat.mod_lt u (show 0 < b by omega); omega
  rw [w1, w2, w3, Sign_eq hsl]
  simp only [outOf]
  have tz : (lo_ (u / b) == (0 : Int) && (hi_ (u / b) == (0 : Int) && true)) = decide (u < b) := by
    have hz : lo_ (u / b) = 0 ∧ hi_ (u / b) = 0 ↔ u / b = 0 := zero_of (Nat.lt_of_le_of_lt hd hu)
    rw [Bool.and_true]
    by_cases h : u < b
    · have h0 : u / b = 0 := Nat.div_eq_of_lt h
      have h2 := hz.2 h0
      rw [h2.1, h2.2, decide_eq_true h]; rfl
    · have h0 : ¬ u / b = 0 := by
        have := (Nat.one_le_div_iff (show 0 < b by omega)).2 (show b ≤ u by omega)
        omega
      rw [decide_eq_false h, ← Bool.not_eq_true, Bool.and_eq_true, beq_iff_eq, beq_iff_eq]
      exact fun hh => h0 (hz.1 hh)
  rw [tz]
  have e1 : [bs [cap (u % b)]] ++ ones t = ones (cap (u % b) :: t) := rfl
  cases t with
  | nil =>
    have : (ones ([] : List UInt8)).isEmpty = true := rfl
    rw [this]
    simp only [cond_true]
    have e2 : [bs [cap (u % b)]] = ones [cap (u % b)] := rfl
    rw [e2, joinSize_ones, joinS_ones, decide_eq_true (show (ones [cap (u % b)]).length ≤ 140737488355328 ∧ [cap (u % b)].length ≤ 140737488355328 from ⟨by unfold ones; simp, by simp⟩)]
    simp only [cond_true]
    by_cases h : u < b
    · rw [if_pos h, decide_eq_true h, Nat.mod_eq_of_lt h]; rfl
    · rw [if_neg h, decide_eq_false h]; rfl
  | cons x r =>
    have hE : (ones (x :: r)).isEmpty = false := rfl
    have hL : (ones (x :: r)).length = (x :: r).length := by unfold ones; simp
    have e3 : List.take ([bs [cap (u % b)]].length + (ones (x :: r)).length) (List.drop 0 ([bs [cap (u % b)]] ++ ones (x :: r))) = ones (cap (u % b) :: x :: r) := by
      rw [e1]
      exact List.take_of_length_le (by rw [List.drop_zero, hL]; unfold ones; simp; omega)
    have hl2 : (ones (cap (u % b) :: x :: r)).length = (x :: r).length + 1 := by unfold ones; simp
    rw [hE, e3, joinSize_ones, joinS_ones, decide_eq_true (show [bs [cap (u % b)]].length + (ones (x :: r)).length ≤ 2147483648 by rw [hL]; simp only [List.length_singleton]; omega),
      decide_eq_true (show (ones (cap (u % b) :: x :: r)).length ≤ 140737488355328 ∧ (cap (u % b) :: x :: r).length ≤ 140737488355328 from ⟨by rw [hl2]; omega, by rw [List.length_cons]; omega⟩)]
    simp only [cond_true, cond_false]
    by_cases h : u < b
    · rw [if_pos h, decide_eq_true h, Nat.mod_eq_of_lt h]; rfl
    · rw [if_neg h, decide_eq_false h]; rfl

theorem two128 : (2 : Nat) ^ 128 = 340282366920938463463374607431768211456 := by decide +kernel

theorem un_loop {b : Nat} (b1 : 2 ≤ b) (b2 : b ≤ 36) : ∀ (k u : Nat) (t : List UInt8), u < 2 ^ k → k ≤ 128 → t.length + k ≤ 1000 →
    num_unsigned_L1 (ones t, (b : Int), lo_ u, hi_ u) = some (bs (caps b u ++ t))
  | k, u, t, hu, hk, ht => by
    have hu' : u < 340282366920938463463374607431768211456 := by
      have h1 : 2 ^ k ≤ 2 ^ 128 := Nat.pow_le_pow_right (by omega) hk
      rw [two128] at h1
      omega
    have hp := un_pass b1 b2 hu' (t := t) (by omega)
    by_cases h : u < b
    · rw [if_pos h] at hp
      rw [caps_small h]
      exact runs_out hp
    · rw [if_neg h] at hp
      unfold num_unsigned_L1
      rw [runs_next hp]
      match k with
      | 0 => simp at hu; omega
      | k + 1 =>
        have hlt : u / b < 2 ^ k := by
          have e : 2 ^ (k + 1) = 2 * 2 ^ k := Nat.pow_succ'
          have h1 : u / b ≤ u / 2 := Nat.div_le_div_left b1 (by omega)
          omega
        have := un_loop b1 b2 k (u / b) (cap (u % b) :: t) hlt (by omega) (by simp only [List.length_cons]; omega)
        unfold num_unsigned_L1 at this
        rw [this, caps_big h b1, List.append_assoc]
        rfl

theorem unsigned_eq {b : Nat} (b1 : 2 ≤ b) (b2 : b ≤ 36) {u : Nat} (hu : u < 340282366920938463463374607431768211456) : num_unsigned (lo_ u) (hi_ u) (b : Int) = some (bs (caps b u)) := by
  unfold num_unsigned num_unsigned_t
  have wb : IntKind.wrap IntKind.u64 (b : Int) = (b : Int) := by rw [wu]; omega
  have := un_loop b1 b2 128 u [] (by rw [two128]; exact hu) (Nat.le_refl _) (by simp)
  rw [wb, show ([] : List ByteArray) = ones [] from rfl, this, List.append_nil]
  rfl

/-- A double's text: with its sign. -/
theorem DText_eq {b : Nat} (b1 : 2 ≤ b) (b2 : b ≤ 36) {lo hi : Int} (h1 : Cell lo) (h2 : Cell hi) :
    num_DText lo hi (b : Int) = some (bs ((if S lo hi < 0 then [45] else []) ++ caps b (S lo hi).natAbs)) := by
  unfold num_DText num_DText_t
  have hg : goodB (b : Int) = true := decide_eq_true (by omega)
  rw [good_eq, hg]
  simp only [outOf, Bool.not_true, cond_false]
  obtain ⟨r1, r2⟩ := S_range h1 h2
  have hs := Pd_S h1 h2
  have hsg : S lo hi < 0 ↔ hi < 0 := by unfold S; omega
  unfold Pd at hs
  generalize S lo hi = s at *
  obtain ⟨e1, e2⟩ := Prod.mk.inj hs
  by_cases h : hi < 0
  · rw [decide_eq_true h, if_pos (hsg.2 h)]
    simp only [cond_true]
    have hn := Neg_eq s
    rw [e1, e2] at hn
    rw [hn]
    simp only [outOf, Pd]
    have ea : -s = (s.natAbs : Int) := by have := hsg.2 h; omega
    rw [ea]
    have := unsigned_eq b1 b2 (u := s.natAbs) (by omega)
    unfold lo_ hi_ at this
    rw [this]
    simp only [outOf]
    have hl : (caps b s.natAbs).length ≤ 129 := by
      unfold caps Lib.toUpperA
      rw [List.length_map]
      exact digs_length b 128 s.natAbs (by rw [two128]; omega)
    rw [bs_size, decide_eq_false (by omega)]
    rfl
  · rw [decide_eq_false h, if_neg (fun hh => h (hsg.1 hh))]
    simp only [cond_false]
    have ea : s = (s.natAbs : Int) := by
      have : ¬ s < 0 := fun hh => h (hsg.1 hh)
      omega
    have := unsigned_eq b1 b2 (u := s.natAbs) (by omega)
    unfold lo_ hi_ at this
    rw [← ea, e1, e2] at this
    rw [this]
    rfl

theorem DText_bad {b : Int} (h : ¬ (2 ≤ b ∧ b ≤ 36)) (lo hi : Int) : num_DText lo hi b = some (bs []) := by
  unfold num_DText num_DText_t
  have hg : goodB b = false := decide_eq_false h
  rw [good_eq, hg]
  rfl

theorem UText_bad {b : Int} (h : ¬ (2 ≤ b ∧ b ≤ 36)) (n : Int) : num_UText n b = some (bs []) := by
  unfold num_UText num_UText_t
  have hg : goodB b = false := decide_eq_false h
  rw [good_eq, hg]
  rfl

theorem Text_bad {b : Int} (h : ¬ (2 ≤ b ∧ b ≤ 36)) (n : Int) : num_Text n b = some (bs []) := by
  unfold num_Text num_Text_t
  have hg : goodB b = false := decide_eq_false h
  rw [good_eq, hg]
  rfl

end Go.Proofs.Dbl
