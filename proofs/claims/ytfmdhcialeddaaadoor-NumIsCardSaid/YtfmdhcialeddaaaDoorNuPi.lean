/- NumSteps: the plain law. -/
import Derived.Test.YtfmdhcialeddaaaDoorNuPh
namespace Go.Proofs.Dbl
open Go Go.TX Go.Proofs
set_option maxRecDepth 100000
set_option maxHeartbeats 0
set_option linter.unusedVariables false
set_option linter.unusedSimpArgs false

/-- A digit, as a capital. -/
def cap (v : Nat) : UInt8 := Lib.upperB (dch v)

theorem caps_small {b n : Nat} (h : n < b) : caps b n = [cap n] := by unfold caps; rw [digs_small h]; rfl
theorem caps_big {b n : Nat} (h : ¬ n < b) (hb : 2 ≤ b) : caps b n = caps b (n / b) ++ [cap (n % b)] := by
  unfold caps; rw [digs_big h hb]; simp [Lib.toUpperA, cap]

theorem caps_ne (b n : Nat) : caps b n ≠ [] := by
  unfold caps Lib.toUpperA
  rw [digs]
  split <;> simp

theorem dfold_cons (b : Int) (c : UInt8) (l : List UInt8) (v : Int) : dfold b (c :: l) v = match dig (c.toNat : Int) b with | none => none | some x => dfold b l (v * b + x) := rfl

theorem dfold_append (b : Int) : ∀ (l m : List UInt8) (v : Int), dfold b (l ++ m) v = (dfold b l v).bind fun w => dfold b m w
  | [], m, v => rfl
  | c :: l, m, v => by
    rw [List.cons_append, dfold_cons, dfold_cons]
    cases dig (c.toNat : Int) b with
    | none => rfl
    | some x => exact dfold_append b l m _

theorem dfold_cap {b v : Nat} (h1 : 2 ≤ b) (h2 : b ≤ 36) (h : v < b) (w : Int) : dfold (b : Int) [cap v] w = some (w * b + v) := by
  unfold dfold cap
  rw [dig_cap h1 h2 h]
  rfl

theorem dfold_caps {b : Nat} (h1 : 2 ≤ b) (h2 : b ≤ 36) (n : Nat) : dfold (b : Int) (caps b n) 0 = some (n : Int) := by
  induction n using Nat.strongRecOn with
  | ind n ih =>
    by_cases h : n < b
    · rw [caps_small h, dfold_cap h1 h2 h]; simp
    · rw [caps_big h h1, dfold_append, ih _ (Nat.div_lt_self (by omega) (by omega))]
      simp only [Option.bind_some]
      rw [dfold_cap h1 h2 (Nat.mod_lt _ (by omega))]
      congr 1
      have := Nat.div_add_mod n b
      rw [Nat.mul_comm] at this
      exact_mod_cast this

def Plain (x : UInt8) : Prop := x ≠ 35 ∧ x ≠ 36 ∧ x ≠ 37 ∧ x ≠ 39 ∧ x ≠ 45 ∧ x ≠ 46

theorem plain_of_worth {x : UInt8} (h : 0 ≤ worth (x.toNat : Int)) : Plain x := by
  refine ⟨?_, ?_, ?_, ?_, ?_, ?_⟩ <;> (rintro rfl; revert h; decide)

theorem caps_plain {b n : Nat} (h1 : 2 ≤ b) (h2 : b ≤ 36) : ∀ x ∈ caps b n, Plain x := fun x hx => plain_of_worth (caps_worth h1 h2 hx)

theorem plain_ends {t : List UInt8} (hp : ∀ x ∈ t, Plain x) : starts t [35] = false ∧ starts t [36] = false ∧ starts t [37] = false ∧ starts t [39] = false ∧ starts t [45] = false ∧ ends t [46] = false := by
  have st : ∀ q : UInt8, q ∉ t → starts t [q] = false ∧ ends t [q] = false := by
    intro q hn
    refine ⟨?_, ?_⟩
    · cases h : starts t [q] with
      | false => rfl
      | true => exact absurd (starts_mem h) hn
    · cases h : ends t [q] with
      | false => rfl
      | true => exact absurd (ends_mem h) hn
  exact ⟨(st 35 fun h => (hp _ h).1 rfl).1, (st 36 fun h => (hp _ h).2.1 rfl).1, (st 37 fun h => (hp _ h).2.2.1 rfl).1, (st 39 fun h => (hp _ h).2.2.2.1 rfl).1, (st 45 fun h => (hp _ h).2.2.2.2.1 rfl).1, (st 46 fun h => (hp _ h).2.2.2.2.2 rfl).2⟩

theorem num_plain {t : List UInt8} {b v : Int} (h0 : t ≠ []) (hp : ∀ x ∈ t, Plain x) (hd : dfold b t 0 = some v) : numOf' t b = ([W v], true) := by
  obtain ⟨_, _, _, _, h5, h6⟩ := plain_ends hp
  unfold numOf' numW
  rw [h5]
  simp only [Bool.false_eq_true, if_false]
  rw [h6]
  simp only [Bool.false_eq_true, if_false]
  rw [hd]
  simp only [h0, if_false]

theorem num_minus {t : List UInt8} {b v : Int} (h0 : t ≠ []) (hp : ∀ x ∈ t, Plain x) (hd : dfold b t 0 = some v) : numOf' (45 :: t) b = ([W (-v)], true) := by
  obtain ⟨_, _, _, _, h5, h6⟩ := plain_ends hp
  unfold numOf' numW
  have : starts (45 :: t) [45] = true := by simp [starts]
  rw [this]
  simp only [if_true, List.drop_succ_cons, List.drop_zero]
  rw [h6]
  simp only [Bool.false_eq_true, if_false]
  rw [hd]
  simp only [h0, if_false]

theorem parse_plain {t : List UInt8} {b v : Int} (hb : goodB b = true) (h0 : t ≠ []) (hp : ∀ x ∈ t, Plain x) (hd : dfold b t 0 = some v) : parse' t b = ([W v], true) := by
  obtain ⟨h1, h2, h3, h4, _, _⟩ := plain_ends hp
  unfold parse'
  have hq : quoted t = false := by unfold quoted; rw [h4]; simp
  have hpre : pre t b = (t, b) := by
    unfold pre
    rw [h1, h2, h3]
    rfl
  rw [hb, hq, hpre]
  simp only [if_true, Bool.false_eq_true, if_false]
  exact num_plain h0 hp hd

theorem starts_cons (x q : UInt8) (t : List UInt8) : starts (x :: t) [q] = (x == q) := by simp [starts]

theorem parse_minus {t : List UInt8} {b v : Int} (hb : goodB b = true) (h0 : t ≠ []) (hp : ∀ x ∈ t, Plain x) (hd : dfold b t 0 = some v) : parse' (45 :: t) b = ([W (-v)], true) := by
  unfold parse'
  have hq : quoted (45 :: t) = false := by unfold quoted; rw [starts_cons]; simp
  have hpre : pre (45 :: t) b = (45 :: t, b) := by
    unfold pre
    rw [starts_cons, starts_cons, starts_cons]
    rfl
  rw [hb, hq, hpre]
  simp only [if_true, Bool.false_eq_true, if_false]
  exact num_minus h0 hp hd

theorem parse_based {t : List UInt8} {b v q : Int} {x : UInt8} (hb : goodB b = true) (hx : x = 35 ∧ q = 10 ∨ x = 36 ∧ q = 16 ∨ x = 37 ∧ q = 2) (h0 : t ≠ []) (hp : ∀ y ∈ t, Plain y) (hd : dfold q t 0 = some v) : parse' (x :: t) b = ([W v], true) := by
  unfold parse'
  rw [hb]
  rcases hx with ⟨rfl, rfl⟩ | ⟨rfl, rfl⟩ | ⟨rfl, rfl⟩
  · have hq : quoted (35 :: t) = false := by unfold quoted; rw [starts_cons]; simp
    have hpre : pre (35 :: t) b = (t, 10) := by unfold pre; rw [starts_cons]; rfl
    rw [hq, hpre]
    simp only [if_true, Bool.false_eq_true, if_false]
    exact num_plain h0 hp hd
  · have hq : quoted (36 :: t) = false := by unfold quoted; rw [starts_cons]; simp
    have hpre : pre (36 :: t) b = (t, 16) := by unfold pre; rw [starts_cons, starts_cons]; rfl
    rw [hq, hpre]
    simp only [if_true, Bool.false_eq_true, if_false]
    exact num_plain h0 hp hd
  · have hq : quoted (37 :: t) = false := by unfold quoted; rw [starts_cons]; simp
    have hpre : pre (37 :: t) b = (t, 2) := by unfold pre; rw [starts_cons, starts_cons, starts_cons]; rfl
    rw [hq, hpre]
    simp only [if_true, Bool.false_eq_true, if_false]
    exact num_plain h0 hp hd

theorem Sign_eq {v : Nat} (h : v < 36) : num_Sign (v : Int) = some (bs [cap v]) := by
  unfold num_Sign num_Sign_t num_Sign_M1 num_Sign_M1_t
  have hf : fmtInt (v : Int) ((36 : Nat) : Int) = _ := fmtInt_eq (by omega) (by omega) (by omega) (n := (v : Int)) ⟨by omega, by omega⟩
  have h36 : ((36 : Nat) : Int) = 36 := rfl
  rw [h36, if_neg (by omega), Int.natAbs_natCast, digs_small h] at hf
  rw [decide_eq_false (by omega), decide_eq_false (by omega)]
  simp only [cond_false, outOf, sumOf]
  rw [hf]
  simp only [List.nil_append]
  have hu : (ascii (bs [dch v]) && decide (ByteArray.size (bs [dch v]) ≤ (140737488355328 : Nat))) = true := upper_ok (fun c hc => by simp only [List.mem_singleton] at hc; subst hc; exact dch_ascii _) (by simp)
  rw [hu]
  rfl

theorem M2_ok (x1 x2 x3 x4 x5 : Int) : lawSteps_M2 [x1] true [x2] true [x3] true [x4] true [x5] true = some (.inr ()) := rfl
theorem one_eq (x : Int) : (List.getD [x] (0 : Nat) (0 : Int) == x) = true := beq_self_eq_true x
theorem one_ok (x : Int) : decide ((0 : Int) ≤ (0 : Int) ∧ (0 : Int) < ((List.length [x] : Nat) : Int)) = true := rfl
theorem steps_eq {n v b o : Int} (hn : Cell n) : lawSteps n v b o = some true := by
  unfold lawSteps lawSteps_t
  rw [awake_eq]
  simp only [outOf]
  by_cases hb : (2 ≤ b ∧ b ≤ 36) ∧ (2 ≤ o ∧ o ≤ 36)
  · have m1 : lawSteps_M1 b o = some (.inr ()) := by
      unfold lawSteps_M1 lawSteps_M1_t
      rw [decide_eq_false (by omega), decide_eq_false (by omega), decide_eq_false (by omega), decide_eq_false (by omega)]; rfl
    rw [m1]
    simp only [sumOf]
    obtain ⟨B, rfl⟩ : ∃ B : Nat, b = (B : Int) := ⟨b.toNat, by omega⟩
    have hB1 : 2 ≤ B := by omega
    have hB2 : B ≤ 36 := by omega
    have gb : goodB (B : Int) = true := decide_eq_true (by omega)
    have go : goodB o = true := decide_eq_true (by omega)
    have u16 : num_UText n 16 = _ := UText_eq (b := 16) (by omega) (by omega) n
    have u2 : num_UText n 2 = _ := UText_eq (b := 2) (by omega) (by omega) n
    have u10 : num_UText n 10 = _ := UText_eq (b := 10) (by omega) (by omega) n
    rw [UText_eq hB1 hB2, u16, u2, u10]
    have hu0 : (((n % 18446744073709551616).toNat : Nat) : Int) = n % 18446744073709551616 := by omega
    have hlen : ∀ q : Nat, (caps q (n % 18446744073709551616).toNat).length ≤ 65 := fun q => by
      unfold caps Lib.toUpperA
      rw [List.length_map]
      exact digs_length q 64 _ (by omega)
    generalize (n % 18446744073709551616).toNat = u at hu0 hlen
    have e16 : dfold 16 (caps 16 u) 0 = some (u : Int) := dfold_caps (b := 16) (by omega) (by omega) u
    have e2 : dfold 2 (caps 2 u) 0 = some (u : Int) := dfold_caps (b := 2) (by omega) (by omega) u
    have e10 : dfold 10 (caps 10 u) 0 = some (u : Int) := dfold_caps (b := 10) (by omega) (by omega) u
    have eB := dfold_caps hB1 hB2 u
    have p16 := caps_plain (b := 16) (n := u) (by omega) (by omega)
    have p2' := caps_plain (b := 2) (n := u) (by omega) (by omega)
    have p10 := caps_plain (b := 10) (n := u) (by omega) (by omega)
    have pB := caps_plain (n := u) hB1 hB2
    have n16 := caps_ne 16 u
    have n2 := caps_ne 2 u
    have n10 := caps_ne 10 u
    have nB := caps_ne B u
    have l16 := hlen 16
    have l2 := hlen 2
    have l10 := hlen 10
    have lB := hlen B
    clear hlen
    generalize caps 16 u = s16 at *
    generalize caps 2 u = s2 at *
    generalize caps 10 u = s10 at *
    generalize caps B u = sB at *
    obtain ⟨a1, a2⟩ := and_low v
    obtain ⟨k, hk, hkB⟩ : ∃ k : Nat, Int.tmod (ibits BinOp.and IntKind.i64 v 65535) (B : Int) = (k : Int) ∧ k < B := by
      rw [Int.tmod_eq_emod_of_nonneg a1]
      have h1 := Int.emod_nonneg (ibits BinOp.and IntKind.i64 v 65535) (b := (B : Int)) (by omega)
      have h2 := Int.emod_lt_of_pos (ibits BinOp.and IntKind.i64 v 65535) (b := (B : Int)) (by omega)
      exact ⟨(ibits BinOp.and IntKind.i64 v 65535 % (B : Int)).toNat, by omega, by omega⟩
    rw [hk, Sign_eq (by omega)]
    simp only [outOf]
    have q45 : bytesOf [45] = bs [45] := rfl
    have q36 : bytesOf [36] = bs [36] := rfl
    have q37 : bytesOf [37] = bs [37] := rfl
    have q35 : bytesOf [35] = bs [35] := rfl
    have zb : (bs sB).size = sB.length := rfl
    have z16 : (bs s16).size = s16.length := rfl
    have z2 : (bs s2).size = s2.length := rfl
    have z10 : (bs s10).size = s10.length := rfl
    have zc : (bs [cap k]).size = 1 := rfl
    rw [decide_eq_false (show ¬ ((B : Int) = 0) by omega), decide_eq_false (by omega), decide_eq_false (by omega), decide_eq_false (by omega), decide_eq_false (by omega), decide_eq_false (by omega)]
    simp only [cond_false]
    rw [q45, q36, q37, q35, bs_append, bs_append, bs_append, bs_append, bs_append]
    simp only [List.cons_append, List.nil_append]
    have p1 : num_Parse (bs (sB ++ [cap k])) (B : Int) = some ([W ((u : Int) * B + k)], true) := by
      rw [parsed (by simp; omega), parse_plain gb (by simp) (fun x hx => by
        rcases List.mem_append.1 hx with h | h
        · exact pB x h
        · rw [List.mem_singleton] at h; subst h
          exact plain_of_worth (by unfold cap; rw [worth_cap (by omega)]; omega)) (v := (u : Int) * B + k) (by rw [dfold_append, eB]; exact dfold_cap hB1 hB2 hkB _)]
    have p2 : num_Parse (bs (45 :: sB)) (B : Int) = some ([W (-(u : Int))], true) := by
      rw [parsed (by simp; omega), parse_minus gb nB pB eB]
    have p3 : num_Parse (bs (36 :: s16)) o = some ([W (u : Int)], true) := by
      rw [parsed (by simp; omega), parse_based (x := 36) (q := 16) go (.inr (.inl ⟨rfl, rfl⟩)) n16 p16 e16]
    have p4 : num_Parse (bs (37 :: s2)) o = some ([W (u : Int)], true) := by
      rw [parsed (by simp; omega), parse_based (x := 37) (q := 2) go (.inr (.inr ⟨rfl, rfl⟩)) n2 p2' e2]
    have p5 : num_Parse (bs (35 :: s10)) o = some ([W (u : Int)], true) := by
      rw [parsed (by simp; omega), parse_based (x := 35) (q := 10) go (.inl ⟨rfl, rfl⟩) n10 p10 e10]
    have wn : W (u : Int) = n := by rw [hu0, W_mod]; exact W_of hn
    have c1 : W ((u : Int) * B + k) = IntKind.wrap IntKind.i64 (IntKind.wrap IntKind.i64 (n * (B : Int)) + (k : Int)) := by
      rw [wi, wi, W_eq, hu0]
      have e : ∀ x : Int, ∃ j, W x = x + 18446744073709551616 * j := fun x => ⟨-((x + 9223372036854775808) / 18446744073709551616), by unfold W; omega⟩
      obtain ⟨j, hj⟩ := e (n * (B : Int))
      have e2' : n % 18446744073709551616 = n - 18446744073709551616 * (n / 18446744073709551616) := by omega
      rw [hj, e2', Int.sub_mul, Int.mul_assoc]
      generalize n / 18446744073709551616 * (B : Int) = y
      generalize n * (B : Int) = z
      omega
    have c2 : W (-(u : Int)) = IntKind.wrap IntKind.i64 ((0 : Int) - n) := by
      rw [wi, W_eq, hu0]; omega
    rw [wn] at p3 p4 p5
    rw [c1] at p1
    rw [c2] at p2
    clear c1 c2 wn
    rw [p1, p2, p3, p4, p5]
    clear p1 p2 p3 p4 p5
    generalize IntKind.wrap IntKind.i64 (IntKind.wrap IntKind.i64 (n * (B : Int)) + (k : Int)) = X1
    generalize IntKind.wrap IntKind.i64 ((0 : Int) - n) = X2
    simp only [M2_ok, cond_true, one_eq, one_ok]
  · have m1 : lawSteps_M1 b o = some (.inl ()) := by
      unfold lawSteps_M1 lawSteps_M1_t
      by_cases h1 : b < 2
      · rw [decide_eq_true h1]; rfl
      · rw [decide_eq_false h1]
        by_cases h2 : b > 36
        · rw [decide_eq_true h2]; rfl
        · rw [decide_eq_false h2]
          by_cases h3 : o < 2
          · rw [decide_eq_true h3]; rfl
          · rw [decide_eq_false h3, decide_eq_true (by omega)]; rfl
    rw [m1]
    rfl

end Go.Proofs.Dbl
