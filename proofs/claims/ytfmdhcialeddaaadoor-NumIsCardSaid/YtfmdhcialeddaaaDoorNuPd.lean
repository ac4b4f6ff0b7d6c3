/- Plain facts about a number's text: by a base that is not ten. -/
import Derived.Test.YtfmdhcialeddaaaDoorNuPc
namespace Go.Proofs.Dbl
open Go Go.TX Go.Proofs
set_option maxRecDepth 100000
set_option maxHeartbeats 0
set_option linter.unusedVariables false
set_option linter.unusedSimpArgs false

/-- Small digits. -/
def dchL : List UInt8 := [48, 49, 50, 51, 52, 53, 54, 55, 56, 57, 97, 98, 99, 100, 101, 102, 103, 104, 105, 106, 107, 108, 109, 110, 111, 112, 113, 114, 115, 116, 117, 118, 119, 120, 121, 122]
def dch (v : Nat) : UInt8 := dchL.getD v 0

def digs (b n : Nat) : List UInt8 := if h : n < b ∨ b < 2 then [dch n] else digs b (n / b) ++ [dch (n % b)]
termination_by n
decreasing_by exact Nat.div_lt_self (by omega) (by omega)

theorem digs_small {b n : Nat} (h : n < b) : digs b n = [dch n] := by rw [digs, dif_pos (.inl h)]
theorem digs_big {b n : Nat} (h : ¬ n < b) (hb : 2 ≤ b) : digs b n = digs b (n / b) ++ [dch (n % b)] := by rw [digs, dif_neg (by omega)]

def nums (l : List UInt8) : List Int := l.map fun b => (b.toNat : Int)

theorem strOf_nums (l : List UInt8) : strOf (nums l) = bs l := by
  have : ∀ (l : List UInt8) (a : ByteArray), ((nums l).foldl (fun r n => r.push (UInt8.ofNat n.toNat)) a).data.toList = a.data.toList ++ l := by
    intro l
    induction l with
    | nil => intro a; simp [nums]
    | cons x l ih =>
      intro a
      have e : nums (x :: l) = (x.toNat : Int) :: nums l := rfl
      rw [e, List.foldl_cons, ih]
      have : UInt8.ofNat ((x.toNat : Int)).toNat = x := by simp
      rw [this]
      show (a.data.push x).toList ++ l = _
      simp
  apply bs_inj
  unfold strOf
  rw [this]
  rfl

theorem drop_set {m0 : List Int} {k : Nat} (h : k < m0.length) (x : Int) : (m0.set k x).drop k = x :: m0.drop (k + 1) := by
  rw [List.drop_eq_getElem_cons (by simpa using h)]
  simp [List.drop_set]

/-- A run of rounds, whatever the loop: digits are laid from behind. -/
theorem rounds {D X : Type} {pass : D → Option (D ⊕ X)} {b : Nat} (hb : 2 ≤ b) (mk : Nat → Nat → List Int → D) (fin : Nat → Nat → List Int → X)
    (hs : ∀ (u i : Nat) (m : List Int), b ≤ u → u < 18446744073709551616 → 1 ≤ i → i ≤ 65 → m.length = 65 → pass (mk u i m) = some (.inl (mk (u / b) (i - 1) (m.set (i - 1) ((dch (u % b)).toNat : Int)))))
    (he : ∀ (u i : Nat) (m : List Int), u < b → pass (mk u i m) = some (.inr (fin u i m))) :
    ∀ (n u i : Nat) (m : List Int), u ≤ n → u < 18446744073709551616 → u < 2 ^ (i - 1) → 1 ≤ i → i ≤ 65 → m.length = 65 →
      ∃ (u' i' : Nat) (m' : List Int) (t : List UInt8), runs pass (mk u i m) = some (fin u' i' m') ∧ u' < b ∧ 1 ≤ i' ∧ i' ≤ i ∧ (i' = i ∧ u' = u ∨ 1 ≤ u' ∧ 2 ≤ i') ∧ m'.length = 65 ∧ digs b u = dch u' :: t ∧ m'.drop i' = nums t ++ m.drop i
  | n, u, i, m, hn, hu, hp, hi1, hi2, hm => by
    by_cases h : u < b
    · exact ⟨u, i, m, [], runs_out (he u i m h), h, hi1, Nat.le_refl _, .inl ⟨rfl, rfl⟩, hm, digs_small h, rfl⟩
    · have h' : b ≤ u := by omega
      have hstep := hs u i m h' hu hi1 hi2 hm
      have hi3 : 2 ≤ i := by
        rcases Nat.lt_or_ge i 2 with h2 | h2
        · have : i - 1 = 0 := by omega
          rw [this] at hp; simp at hp; omega
        · exact h2
      have hlt : u / b < 2 ^ (i - 1 - 1) := by
        have e : 2 ^ (i - 1) = 2 * 2 ^ (i - 1 - 1) := by
          rw [← Nat.pow_succ']; congr 1; omega
        have h1 : u / b ≤ u / 2 := Nat.div_le_div_left hb (by omega)
        omega
      have hq : 1 ≤ u / b := (Nat.one_le_div_iff (by omega)).2 h'
      have hdec : u / b < u := Nat.div_lt_self (by omega) (by omega)
      have hi4 : 2 ≤ i - 1 := by
        rcases Nat.lt_or_ge (i - 1) 2 with h2 | h2
        · have : i - 1 - 1 = 0 := by omega
          rw [this] at hlt; simp at hlt; omega
        · exact h2
      match n with
      | 0 => omega
      | n + 1 =>
        obtain ⟨u', i', m', t, r1, r2, r3, r4, r5, r6, r7, r8⟩ := rounds hb mk fin hs he n (u / b) (i - 1) (m.set (i - 1) ((dch (u % b)).toNat : Int)) (by omega) (by omega) hlt (by omega) (by omega) (by simpa using hm)
        refine ⟨u', i', m', t ++ [dch (u % b)], (runs_next hstep).trans r1, r2, r3, by omega, .inr ?_, r6, ?_, ?_⟩
        · rcases r5 with ⟨e1, e2⟩ | ⟨e1, e2⟩
          · omega
          · exact ⟨e1, e2⟩
        · rw [digs_big h hb, r7]; rfl
        · rw [r8, drop_set (by omega)]
          have : i - 1 + 1 = i := by omega
          rw [this]
          simp [nums]

theorem table_eq : (bytesOf [48, 49, 50, 51, 52, 53, 54, 55, 56, 57, 97, 98, 99, 100, 101, 102, 103, 104, 105, 106, 107, 108, 109, 110, 111, 112, 113, 114, 115, 116, 117, 118, 119, 120, 121, 122]).data.toList = dchL := rfl

abbrev FX := List Int × Int × Bool × Bool × List Int × ByteArray × Int × List Int
def fin8 (s0 : List Int) (s3 s4 : Bool) (s10 : List Int) (s11 : ByteArray) (u i : Nat) (m : List Int) : FX := (s0, (u : Int), s3, s4, s10, s11, (i : Int), m)

theorem index_ok {i : Nat} (h1 : 1 ≤ i) (h2 : i ≤ 65) : IntKind.wrap IntKind.i64 ((i : Int) - 1) = ((i - 1 : Nat) : Int) := by
  rw [wi, W_of ⟨by omega, by omega⟩]; omega

theorem loop2 {b : Nat} (hb : 2 ≤ b) (hb' : b ≤ 36) (s0 : List Int) (s3 s4 : Bool) (s10 : List Int) (s11 : ByteArray) {u i : Nat} {m : List Int} (hu : u < 18446744073709551616) (hp : u < 2 ^ (i - 1)) (h1 : 1 ≤ i) (h2 : i ≤ 65) (hm : m.length = 65) :
    ∃ (u' i' : Nat) (m' : List Int) (t : List UInt8), formatBits_L2 (s0, (u : Int), s3, s4, s10, s11, (i : Int), (b : Int), m) = some (fin8 s0 s3 s4 s10 s11 u' i' m') ∧
      u' < b ∧ 1 ≤ i' ∧ i' ≤ i ∧ (i' = i ∧ u' = u ∨ 1 ≤ u' ∧ 2 ≤ i') ∧ m'.length = 65 ∧ digs b u = dch u' :: t ∧ m'.drop i' = nums t ++ m.drop i := by
  refine rounds hb (pass := formatBits_L2_pass) (fun u i m => (s0, (u : Int), s3, s4, s10, s11, (i : Int), (b : Int), m)) (fin8 s0 s3 s4 s10 s11) ?_ ?_ u u i m (Nat.le_refl _) hu hp h1 h2 hm
  · intro u i m hbu hu h1 h2 hm
    have eq1 : IntKind.wrap IntKind.u64 (Int.tdiv (u : Int) (b : Int)) = ((u / b : Nat) : Int) := by
      have e : Int.tdiv (u : Int) (b : Int) = ((u / b : Nat) : Int) := by
        rw [Int.tdiv_eq_ediv_of_nonneg (by omega)]; norm_cast
      rw [wu, e]
      have := Nat.div_le_self u b
      generalize u / b = q at *
      omega
    have hmod : u % b = u - u / b * b := by
      have := Nat.div_add_mod u b
      rw [Nat.mul_comm] at this
      omega
    have hle : u / b * b ≤ u := Nat.div_mul_le_self u b
    have hlt : u % b < b := Nat.mod_lt _ (by omega)
    have eq2 : IntKind.wrap IntKind.u64 ((u : Int) - IntKind.wrap IntKind.u64 (((u / b : Nat) : Int) * (b : Int))) = ((u % b : Nat) : Int) := by
      have e : (((u / b : Nat) : Int) * (b : Int)) = ((u / b * b : Nat) : Int) := by norm_cast
      rw [e, wu, wu]
      omega
    show formatBits_L2_t s0 (u : Int) s3 s4 s10 s11 (i : Int) (b : Int) m _ _ = _
    unfold formatBits_L2_t
    rw [eq1, eq2, index_ok h1 h2, decide_eq_true (by omega), decide_eq_false (by omega), decide_eq_true (by omega), decide_eq_true (by omega)]
    simp only [cond_true, cond_false, Int.toNat_natCast, Nat.zero_add, table_eq]
    rfl
  · intro u i m h
    show formatBits_L2_t s0 (u : Int) s3 s4 s10 s11 (i : Int) (b : Int) m _ _ = _
    unfold formatBits_L2_t
    rw [decide_eq_false (by omega)]
    rfl

theorem loop1 {b k : Nat} (hk1 : 1 ≤ k) (hk2 : k ≤ 5) (hbk : b = 2 ^ k) (s0 : List Int) (s3 s4 : Bool) (s10 : List Int) (s11 : ByteArray) {u i : Nat} {m : List Int} (hu : u < 18446744073709551616) (hp : u < 2 ^ (i - 1)) (h1 : 1 ≤ i) (h2 : i ≤ 65) (hm : m.length = 65) :
    ∃ (u' i' : Nat) (m' : List Int) (t : List UInt8), formatBits_L1 (s0, (u : Int), s3, s4, s10, s11, (i : Int), (k : Int), (b : Int), (b : Int) - 1, m) = some (fin8 s0 s3 s4 s10 s11 u' i' m') ∧
      u' < b ∧ 1 ≤ i' ∧ i' ≤ i ∧ (i' = i ∧ u' = u ∨ 1 ≤ u' ∧ 2 ≤ i') ∧ m'.length = 65 ∧ digs b u = dch u' :: t ∧ m'.drop i' = nums t ++ m.drop i := by
  have hb : 2 ≤ b := by
    rw [hbk]; calc 2 = 2 ^ 1 := rfl
      _ ≤ 2 ^ k := Nat.pow_le_pow_right (by omega) hk1
  have hb' : b ≤ 32 := by
    rw [hbk]; calc 2 ^ k ≤ 2 ^ 5 := Nat.pow_le_pow_right (by omega) hk2
      _ = 32 := rfl
  refine rounds hb (pass := formatBits_L1_pass) (fun u i m => (s0, (u : Int), s3, s4, s10, s11, (i : Int), (k : Int), (b : Int), (b : Int) - 1, m)) (fin8 s0 s3 s4 s10 s11) ?_ ?_ u u i m (Nat.le_refl _) hu hp h1 h2 hm
  · intro u i m hbu hu h1 h2 hm
    have eb : (b : Int) = 2 ^ k := by rw [hbk]; norm_cast
    have eq1 : ibits BinOp.and IntKind.u64 (u : Int) ((b : Int) - 1) = ((u % b : Nat) : Int) := by
      rw [and_u64 (by omega) (by omega) k (by rw [eb]) (by omega), ← eb]; norm_cast
    have eq2 : Int.fdiv (u : Int) ((2 : Int) ^ min (Int.toNat (k : Int)) (64 : Nat)) = ((u / b : Nat) : Int) := by
      have : min (Int.toNat (k : Int)) 64 = k := by simp; omega
      rw [this, ← eb, fdiv_lit (by omega)]; norm_cast
    have hlt : u % b < b := Nat.mod_lt _ (by omega)
    show formatBits_L1_t s0 (u : Int) s3 s4 s10 s11 (i : Int) (k : Int) (b : Int) ((b : Int) - 1) m _ _ = _
    unfold formatBits_L1_t
    rw [eq1, eq2, index_ok h1 h2, decide_eq_true (by omega), decide_eq_true (by omega), decide_eq_true (by omega), decide_eq_false (by omega)]
    simp only [cond_true, cond_false, Int.toNat_natCast, Nat.zero_add, table_eq]
    rfl
  · intro u i m h
    show formatBits_L1_t s0 (u : Int) s3 s4 s10 s11 (i : Int) (k : Int) (b : Int) ((b : Int) - 1) m _ _ = _
    unfold formatBits_L1_t
    rw [decide_eq_false (by omega)]
    rfl

theorem isPow_eq (b : Nat) (h1 : 2 ≤ b) (h2 : b ≤ 36) : isPow (b : Int) = decide (b = 2 ∨ b = 4 ∨ b = 8 ∨ b = 16 ∨ b = 32) := by
  have : ∀ b : Fin 37, 2 ≤ b.val → (ibits0 BinOp.and IntKind.i64 (b.val : Int) (IntKind.wrap IntKind.i64 ((b.val : Int) - (1 : Int))) == (0 : Int)) = decide (b.val = 2 ∨ b.val = 4 ∨ b.val = 8 ∨ b.val = 16 ∨ b.val = 32) := by decide +kernel
  unfold isPow
  rw [ibits_def]
  exact this ⟨b, by omega⟩ h1

theorem tz_eq (k : Nat) (h1 : 1 ≤ k) (h2 : k ≤ 5) : tz ((2 ^ k : Nat) : Int) = some (k : Int) := by
  unfold tz tz_t tz64 tz64_t
  simp only [ibits_def]
  match k, h1, h2 with
  | 1, _, _ => decide +kernel
  | 2, _, _ => decide +kernel
  | 3, _, _ => decide +kernel
  | 4, _, _ => decide +kernel
  | 5, _, _ => decide +kernel

/-- A number's text by a base that is not ten: small digits. -/
theorem fmtBits_eq {b : Nat} (h1 : 2 ≤ b) (h2 : b ≤ 36) (h10 : b ≠ 10) (a0 : List Int) {u n : Nat} (hu : u < 18446744073709551616) (neg : Bool) (hn : if neg = true then (n + u) % 18446744073709551616 = 0 ∧ n < 18446744073709551616 else n = u) :
    formatBits a0 (u : Int) (b : Int) neg = some ([], bs ((if neg = true then [45] else []) ++ digs b n)) := by
  have hn64 : n < 18446744073709551616 := by
    cases neg
    · simp at hn; omega
    · simp at hn; exact hn.2
  have m1 : formatBits_M1 (b : Int) = some () := by
    unfold formatBits_M1 formatBits_M1_t
    have : ((b : Int) == 10) = false := by rw [beq_eq_false_iff_ne]; omega
    rw [decide_eq_false (by omega), this, decide_eq_false (by omega)]
    rfl
  have m2 : formatBits_M2 (u : Int) neg = some (n : Int) := by
    unfold formatBits_M2 formatBits_M2_t
    cases neg with
    | false => simp at hn; rw [hn]; rfl
    | true =>
      simp at hn
      simp only [cond_true]
      have e : ((0 : Int) - (u : Int)) % 18446744073709551616 = (n : Int) := by omega
      rw [wu, e]
  have wb : IntKind.wrap IntKind.u64 (b : Int) = (b : Int) := by rw [wu]; omega
  have key : ∀ z : List Int, z.length = 65 → ∃ (i : Nat) (m : List Int), formatBits_M3 a0 (n : Int) (b : Int) neg false [] (bytesOf []) (65 : Int) z = some (a0, neg, false, [], bytesOf [], (i : Int), m) ∧ 1 ≤ i ∧ i ≤ 64 ∧ m.length = 65 ∧ m.drop i = nums (digs b n) := by
    intro z hz
    have zd : z.drop 65 = [] := List.drop_eq_nil_of_le (by omega)
    have fin : ∀ (u' i' : Nat) (m' : List Int) (t : List UInt8), u' < b → 1 ≤ i' → i' ≤ 65 → (i' = 65 ∧ u' = n ∨ 1 ≤ u' ∧ 2 ≤ i') → m'.length = 65 → digs b n = dch u' :: t → m'.drop i' = nums t ++ z.drop 65 →
        ∃ (i : Nat) (m : List Int), (cond (decide ((0 : Int) ≤ (u' : Int) ∧ (u' : Int) < (36 : Int))) (cond (decide ((0 : Int) ≤ IntKind.wrap IntKind.i64 ((i' : Int) - (1 : Int)) ∧ IntKind.wrap IntKind.i64 ((i' : Int) - (1 : Int)) < (65 : Int) ∧ (0 : Nat) + Int.toNat (IntKind.wrap IntKind.i64 ((i' : Int) - (1 : Int))) < List.length m'))
            (some (a0, neg, false, ([] : List Int), bytesOf [], IntKind.wrap IntKind.i64 ((i' : Int) - (1 : Int)), List.set m' ((0 : Nat) + Int.toNat (IntKind.wrap IntKind.i64 ((i' : Int) - (1 : Int)))) ((List.getD dchL (Int.toNat (u' : Int)) 0).toNat : Int))) none) none) = some (a0, neg, false, ([] : List Int), bytesOf [], (i : Int), m) ∧ 1 ≤ i ∧ i ≤ 64 ∧ m.length = 65 ∧ m.drop i = nums (digs b n) := by
      intro u' i' m' t r2 r3 r4 r5 r6 r7 r8
      refine ⟨i' - 1, m'.set (i' - 1) ((dch u').toNat : Int), ?_, by omega, by omega, by simpa using r6, ?_⟩
      · rw [index_ok r3 (by omega), decide_eq_true (by omega), decide_eq_true (by omega)]
        simp only [cond_true, Int.toNat_natCast, Nat.zero_add]
        rfl
      · rw [drop_set (by omega), r7]
        have : i' - 1 + 1 = i' := by omega
        rw [this, r8, zd]
        simp [nums]
    unfold formatBits_M3 formatBits_M3_t
    rw [wb, isPow_eq b h1 h2]
    by_cases hpw : b = 2 ∨ b = 4 ∨ b = 8 ∨ b = 16 ∨ b = 32
    · obtain ⟨k, hk1, hk2, hbk⟩ : ∃ k, 1 ≤ k ∧ k ≤ 5 ∧ b = 2 ^ k := by
        rcases hpw with rfl | rfl | rfl | rfl | rfl
        · exact ⟨1, by omega, by omega, rfl⟩
        · exact ⟨2, by omega, by omega, rfl⟩
        · exact ⟨3, by omega, by omega, rfl⟩
        · exact ⟨4, by omega, by omega, rfl⟩
        · exact ⟨5, by omega, by omega, rfl⟩
      have htz : tz (b : Int) = some (k : Int) := by rw [hbk]; exact tz_eq k hk1 hk2
      obtain ⟨u', i', m', t, r1, r2, r3, r4, r5, r6, r7, r8⟩ := loop1 hk1 hk2 hbk a0 neg false [] (bytesOf []) (u := n) (i := 65) (m := z) hn64 (by simpa using hn64) (by omega) (by omega) hz
      have wk : IntKind.wrap IntKind.u64 (k : Int) = (k : Int) := by rw [wu]; omega
      have wb1 : IntKind.wrap IntKind.u64 ((b : Int) - 1) = (b : Int) - 1 := by rw [wu]; omega
      rw [decide_eq_true hpw, htz]
      simp only [cond_true, outOf, wk, wb1]
      have r1' : formatBits_L1 (a0, (n : Int), neg, false, [], bytesOf [], (65 : Int), (k : Int), (b : Int), (b : Int) - 1, z) = some (fin8 a0 neg false [] (bytesOf []) u' i' m') := r1
      rw [r1']
      exact fin u' i' m' t r2 r3 r4 r5 r6 r7 r8
    · obtain ⟨u', i', m', t, r1, r2, r3, r4, r5, r6, r7, r8⟩ := loop2 h1 h2 a0 neg false [] (bytesOf []) (u := n) (i := 65) (m := z) hn64 (by simpa using hn64) (by omega) (by omega) hz
      rw [decide_eq_false hpw]
      simp only [cond_false, outOf]
      have r1' : formatBits_L2 (a0, (n : Int), neg, false, [], bytesOf [], (65 : Int), (b : Int), z) = some (fin8 a0 neg false [] (bytesOf []) u' i' m') := r1
      rw [r1']
      exact fin u' i' m' t r2 r3 r4 r5 r6 r7 r8
  unfold formatBits formatBits_t
  rw [m1, m2]
  simp only [outOf]
  obtain ⟨i, m, e1, e2, e3, e4, e5⟩ := key [(0 : Int), (0 : Int), (0 : Int), (0 : Int), (0 : Int), (0 : Int), (0 : Int), (0 : Int), (0 : Int), (0 : Int), (0 : Int), (0 : Int), (0 : Int), (0 : Int), (0 : Int), (0 : Int), (0 : Int), (0 : Int), (0 : Int), (0 : Int), (0 : Int), (0 : Int), (0 : Int), (0 : Int), (0 : Int), (0 : Int), (0 : Int), (0 : Int), (0 : Int), (0 : Int), (0 : Int), (0 : Int), (0 : Int), (0 : Int), (0 : Int), (0 : Int), (0 : Int), (0 : Int), (0 : Int), (0 : Int), (0 : Int), (0 : Int), (0 : Int), (0 : Int), (0 : Int), (0 : Int), (0 : Int), (0 : Int), (0 : Int), (0 : Int), (0 : Int), (0 : Int), (0 : Int), (0 : Int), (0 : Int), (0 : Int), (0 : Int), (0 : Int), (0 : Int), (0 : Int), (0 : Int), (0 : Int), (0 : Int), (0 : Int), (0 : Int)] (by decide)
  rw [e1]
  simp only
  cases neg with
  | false =>
    simp only [cond_false]
    rw [decide_eq_true e4, decide_eq_true (by omega)]
    simp only [cond_true, Int.toNat_natCast]
    rw [List.take_of_length_le (by simp; omega), e5, strOf_nums]
    rfl
  | true =>
    rw [index_ok (by omega) (by omega), decide_eq_true (by omega)]
    simp only [cond_true, cond_false, Int.toNat_natCast, Nat.zero_add]
    rw [decide_eq_true (by simpa using e4), decide_eq_true (by omega)]
    simp only [cond_true]
    rw [List.take_of_length_le (by simp; omega), drop_set (by omega)]
    have : i - 1 + 1 = i := by omega
    rw [this, e5]
    have : (45 : Int) :: nums (digs b n) = nums (45 :: digs b n) := rfl
    rw [this, strOf_nums]
    rfl

end Go.Proofs.Dbl
