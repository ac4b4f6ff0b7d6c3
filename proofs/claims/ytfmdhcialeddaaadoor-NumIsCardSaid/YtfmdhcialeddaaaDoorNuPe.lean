/- Plain facts: digits one by one; a number's text. -/
import Derived.Test.YtfmdhcialeddaaaDoorNuPd
import Derived.Test.YtfmdhcialeddaaaDoorNuXD
namespace Go.Proofs.Dbl
open Go Go.TX Go.Proofs
set_option maxRecDepth 100000
set_option maxHeartbeats 0
set_option linter.unusedVariables false
set_option linter.unusedSimpArgs false

def dfold (b : Int) : List UInt8 → Int → Option Int
  | [], v => some v
  | c :: r, v => match dig (c.toNat : Int) b with
    | none => none
    | some x => dfold b r (v * b + x)

theorem dig_high {c b : Int} (h : 128 ≤ c) : dig c b = none := by
  have : worth c = -1 := by
    unfold worth
    rw [if_neg (by omega), if_neg (by omega), if_neg (by omega)]
  unfold dig
  rw [if_neg (by rw [this]; omega)]

theorem dgo_fold (l : List UInt8) (b : Int) : ∀ (n p : Nat) (v : Int), l.length - p ≤ n → dgo (bs l) b p v = dfold b (l.drop p) v
  | n, p, v, hn => by
    by_cases hp : p < l.length
    · have hp' : p < (bs l).size := hp
      rw [List.drop_eq_getElem_cons hp]
      have hg : (bs l)[p]'hp' = l[p] := rfl
      by_cases ha : l[p].toNat < 128
      · have hd := Go.decode_ascii (bs l) p hp' (by rw [hg]; exact ha)
        have hr : runeAt (bs l) p = (l[p].toNat : Int) := by unfold runeAt; rw [hd, hg]
        have hw : runeW (bs l) p = 1 := by unfold runeW; rw [hd]
        unfold dfold
        cases hx : dig (l[p].toNat : Int) b with
        | none => rw [dgo_none hp' (by rw [hr]; exact hx)]
        | some x =>
          rw [dgo_some hp' (by rw [hr]; exact hx), hw]
          match n with
          | 0 => omega
          | n + 1 => exact dgo_fold l b n (p + 1) _ (by omega)
      · have hd := Go.decode_high (bs l) p hp' (by rw [hg]; omega)
        unfold dfold
        rw [dig_high (c := (l[p].toNat : Int)) (by omega), dgo_none hp' (dig_high (by unfold runeAt; omega))]
    · rw [dgo_end hp, List.drop_eq_nil_of_le (by omega)]
      rfl

theorem dgo_eq (l : List UInt8) (b v : Int) : dgo (bs l) b 0 v = dfold b l v := dgo_fold l b _ 0 v (Nat.le_refl _)

/-- What a text's number is, digits one by one. -/
def numOf' (l : List UInt8) (b : Int) : List Int × Bool := numW (fun l b => dfold b l 0) l b

theorem numOf_eq (l : List UInt8) (b : Int) : numOf l b = numOf' l b := by
  unfold numOf numOf'
  simp only [dgo_eq]

def parse' (l : List UInt8) (b : Int) : List Int × Bool :=
  if goodB b = true then
    if quoted l = true then ([((l.getD 1 0).toNat : Int)], true) else numOf' (pre l b).1 (pre l b).2
  else ([], false)

theorem parsed {l : List UInt8} (hl : l.length < 9223372036854775808) (b : Int) : num_Parse (bs l) b = some (parse' l b) := by
  rw [Parse_eq hl]
  unfold parse parse'
  rw [numOf_eq]

/-! ### Texts -/

theorem dch_ascii (v : Nat) : (dch v).toNat < 128 := by
  have : ∀ c ∈ dchL, c.toNat < 128 := by decide
  unfold dch
  rw [List.getD_eq_getElem?_getD]
  cases h : dchL[v]? with
  | none => decide
  | some c => exact this c (List.mem_of_getElem? h)

theorem digs_ascii (b : Nat) : ∀ (n : Nat), ∀ c ∈ digs b n, c.toNat < 128 := by
  intro n
  induction n using Nat.strongRecOn with
  | ind n ih =>
    intro c hc
    rw [digs] at hc
    split at hc
    · simp only [List.mem_singleton] at hc; subst hc; exact dch_ascii _
    · rename_i h
      rcases List.mem_append.1 hc with h1 | h1
      · exact ih _ (Nat.div_lt_self (by omega) (by omega)) c h1
      · simp only [List.mem_singleton] at h1; subst h1; exact dch_ascii _

theorem digs_length (b : Nat) : ∀ (k n : Nat), n < 2 ^ k → (digs b n).length ≤ k + 1
  | 0, n, h => by
    have : n = 0 := by simpa using h
    subst this
    rw [digs]
    split
    · simp
    · rename_i h2; omega
  | k + 1, n, h => by
    rw [digs]
    split
    · simp
    · rename_i h2
      have : n / b ≤ n / 2 := Nat.div_le_div_left (by omega) (by omega)
      have e : 2 ^ (k + 1) = 2 * 2 ^ k := Nat.pow_succ'
      have := digs_length b k (n / b) (by omega)
      simp; omega

theorem upperS_bs (l : List UInt8) : upperS (bs l) = bs (Lib.toUpperA l) := rfl
theorem ascii_bs (l : List UInt8) : ascii (bs l) = l.all fun b => decide (b.toNat < 128) := rfl

/-- Capital digits. -/
def caps (b n : Nat) : List UInt8 := Lib.toUpperA (digs b n)

theorem fmtUint_eq {b : Nat} (h1 : 2 ≤ b) (h2 : b ≤ 36) (h10 : b ≠ 10) {u : Nat} (hu : u < 18446744073709551616) : fmtUint (u : Int) (b : Int) = some (bs (digs b u)) := by
  unfold fmtUint fmtUint_t fmtUint0 fmtUint0_t
  have : ((b : Int) == 10) = false := by rw [beq_eq_false_iff_ne]; omega
  rw [this]
  simp only [cond_false]
  rw [fmtBits_eq h1 h2 h10 [] hu false rfl]
  rfl

theorem fmtInt_eq {b : Nat} (h1 : 2 ≤ b) (h2 : b ≤ 36) (h10 : b ≠ 10) {n : Int} (hn : Cell n) :
    fmtInt n (b : Int) = some (bs ((if n < 0 then [45] else []) ++ digs b n.natAbs)) := by
  unfold Cell at hn
  unfold fmtInt fmtInt_t fmtInt0 fmtInt0_t
  have : ((b : Int) == 10) = false := by rw [beq_eq_false_iff_ne]; omega
  rw [this]
  simp only [cond_false]
  have wn : IntKind.wrap IntKind.u64 n = ((n % 18446744073709551616).toNat : Int) := by rw [wu]; omega
  rw [wn]
  by_cases h : n < 0
  · rw [decide_eq_true h, fmtBits_eq h1 h2 h10 [] (n := n.natAbs) (by omega) true (by simp; omega), if_pos h]
    rfl
  · rw [decide_eq_false h, fmtBits_eq h1 h2 h10 [] (n := n.natAbs) (by omega) false (by simp; omega), if_neg h]
    rfl

theorem upper_ok {l : List UInt8} (h1 : ∀ c ∈ l, c.toNat < 128) (h2 : l.length ≤ 140737488355328) : (ascii (bs l) && decide (ByteArray.size (bs l) ≤ (140737488355328 : Nat))) = true := by
  rw [ascii_bs, Bool.and_eq_true, List.all_eq_true]
  exact ⟨fun c hc => decide_eq_true (h1 c hc), decide_eq_true h2⟩

theorem UText_ne {b : Nat} (h1 : 2 ≤ b) (h2 : b ≤ 36) (h10 : b ≠ 10) (n : Int) : num_UText n (b : Int) = some (bs (caps b (n % 18446744073709551616).toNat)) := by
  unfold num_UText num_UText_t
  have hg : goodB (b : Int) = true := decide_eq_true (by omega)
  have wn : IntKind.wrap IntKind.u64 n = ((n % 18446744073709551616).toNat : Int) := by rw [wu]; omega
  rw [good_eq, hg, wn, fmtUint_eq h1 h2 h10 (by omega)]
  simp only [outOf, Bool.not_true, cond_false]
  rw [upper_ok (digs_ascii _ _) (by have := digs_length b 64 (n % 18446744073709551616).toNat (by omega); omega)]
  rfl

theorem Text_ne {b : Nat} (h1 : 2 ≤ b) (h2 : b ≤ 36) (h10 : b ≠ 10) {n : Int} (hn : Cell n) : num_Text n (b : Int) = some (bs ((if n < 0 then [45] else []) ++ caps b n.natAbs)) := by
  unfold num_Text num_Text_t
  have hg : goodB (b : Int) = true := decide_eq_true (by omega)
  rw [good_eq, hg, fmtInt_eq h1 h2 h10 hn]
  simp only [outOf, Bool.not_true, cond_false]
  have hl : (digs b n.natAbs).length ≤ 65 := digs_length b 64 _ (by unfold Cell at hn; omega)
  rw [upper_ok (l := (if n < 0 then [45] else []) ++ digs b n.natAbs) (fun c hc => by
    rcases List.mem_append.1 hc with h | h
    · split at h
      · simp only [List.mem_singleton] at h; subst h; decide
      · cases h
    · exact digs_ascii _ _ c h) (by
    simp only [List.length_append]
    split <;> simp <;> omega)]
  simp only [cond_true]
  rw [upperS_bs]
  unfold caps
  split <;> rfl

/-! ### The document's example -/

theorem awake_eq : law_awake = some true := by
  have e1 : num_Parse (bytesOf [36, 45, 70, 70, 46]) 10 = some ([-255, -1], true) := by
    rw [bytesOf_bs, parsed (by decide)]
    decide +kernel
  have e2 : num_Text (-255) 16 = some (bs [45, 70, 70]) := by
    have h : num_Text (-255) ((16 : Nat) : Int) = _ := Text_ne (by omega) (by omega) (by omega) (n := -255) ⟨by decide, by decide⟩
    have d : digs 16 255 = [102, 102] := by rw [digs_big (by omega) (by omega), digs_small (by omega)]; decide
    have : (-255 : Int).natAbs = 255 := rfl
    rw [this] at h
    unfold caps at h
    rw [d] at h
    exact h.trans (by decide +kernel)
  have e3 : num_UText 5 2 = some (bs [49, 48, 49]) := by
    have h : num_UText 5 ((2 : Nat) : Int) = _ := UText_ne (by omega) (by omega) (by omega) 5
    have d : digs 2 5 = [49, 48, 49] := by rw [digs_big (by omega) (by omega), digs_big (by omega) (by omega), digs_small (by omega)]; decide
    have : ((5 : Int) % 18446744073709551616).toNat = 5 := rfl
    rw [this] at h
    unfold caps at h
    rw [d] at h
    exact h.trans (by decide +kernel)
  unfold law_awake law_awake_t
  rw [e1, e2, e3]
  simp only [outOf]
  rw [bytesOf_bs, bytesOf_bs]
  simp only [bs_toList]
  decide +kernel

end Go.Proofs.Dbl
