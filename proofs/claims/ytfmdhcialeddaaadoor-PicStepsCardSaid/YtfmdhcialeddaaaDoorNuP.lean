/- Plain facts about doubles: what each function of the package comes to, as numbers. -/
import Derived.Test.YtfmdhcialeddaaaDoorNuXA
import Derived.IntWalk
import Derived.Laws.Bits64
import Derived.Test.YtfmdhcialeddaaaDoorNuXC
import Derived.Laws.BytesString
import Derived.Laws.RangeAny
import Derived.Lib.RuneCount
import Derived.Test.YtfmdhcialeddaaaDoorNuXD
import Derived.Lib.ItoaNum
import Derived.Test.YtfmdhcialeddaaaDoorNuXE
import Derived.Test.YtfmdhcialeddaaaDoorNuXF
namespace Go.Proofs.Dbl
open Go Go.TX Go.Proofs
set_option maxRecDepth 100000
set_option maxHeartbeats 0
set_option linter.unusedVariables false
set_option linter.unusedSimpArgs false
/-- A number as a cell holds it. -/
def W (x : Int) : Int := (x + 9223372036854775808) % 18446744073709551616 - 9223372036854775808
def Cell (x : Int) : Prop := -9223372036854775808 ≤ x ∧ x ≤ 9223372036854775807
/-- The number of a double. -/
def S (lo hi : Int) : Int := lo % 18446744073709551616 + 18446744073709551616 * hi
/-- A number as a double. -/
def Pd (v : Int) : Int × Int := (W v, W (v / 18446744073709551616))
theorem wi (n : Int) : IntKind.wrap .i64 n = W n := by
  have := IntWalk.i64_left n
  unfold RowKit.wrap64 at this
  unfold W
  omega
theorem wu (n : Int) : IntKind.wrap .u64 n = n % 18446744073709551616 := IntKind.wrap_u64 n
theorem W_cell (x : Int) : Cell (W x) := by unfold Cell W; omega
theorem W_of {x : Int} (h : Cell x) : W x = x := by unfold Cell at h; unfold W; omega
theorem W_mod (x : Int) : W (x % 18446744073709551616) = W x := by unfold W; omega
theorem mod_W (x : Int) : W x % 18446744073709551616 = x % 18446744073709551616 := by unfold W; omega
theorem W_eq {x y : Int} : W x = W y ↔ (x - y) % 18446744073709551616 = 0 := by unfold W; omega
theorem Pd_S {lo hi : Int} (h1 : Cell lo) (h2 : Cell hi) : Pd (S lo hi) = (lo, hi) := by
  unfold Cell at h1 h2
  unfold Pd S W
  refine Prod.ext ?_ ?_ <;> simp only <;> omega
theorem S_range {lo hi : Int} (h1 : Cell lo) (h2 : Cell hi) : -170141183460469231731687303715884105728 ≤ S lo hi ∧ S lo hi < 170141183460469231731687303715884105728 := by
  unfold Cell at h1 h2; unfold S; omega
theorem fdiv_lit {n m : Int} (h : 0 ≤ m) : Int.fdiv n m = n / m := Int.fdiv_eq_ediv_of_nonneg _ h
theorem Add_eq (v w : Int) : dbl_Add (W v) (W (v / 18446744073709551616)) (W w) (W (w / 18446744073709551616)) = some (Pd (v + w)) := by
  unfold dbl_Add dbl_Add_t
  simp only [wu, wi]
  rw [decide_eq_true (by omega), decide_eq_true (by omega)]
  simp only [cond_true]
  unfold Pd W
  congr 2 <;> omega
theorem xor_m1 {n : Int} (h : Cell n) : ibits .xor .i64 (-1) n = -1 - n := by
  have e : (BitVec.ofInt 64 (-1) ^^^ BitVec.ofInt 64 n) = ~~~ (BitVec.ofInt 64 n) := by
    rw [show BitVec.ofInt 64 (-1) = BitVec.allOnes 64 from by decide, BitVec.allOnes_xor]
  rw [ibits_def]
  show IntKind.wrap .i64 (((BitVec.ofInt 64 (-1) ^^^ BitVec.ofInt 64 n).toNat : Nat) : Int) = _
  rw [e, wi, BitVec.toNat_not, BitVec.toNat_ofInt]
  unfold Cell at h
  unfold W
  omega
theorem Neg_eq (v : Int) : dbl_Neg (W v) (W (v / 18446744073709551616)) = some (Pd (-v)) := by
  unfold dbl_Neg dbl_Neg_t
  rw [xor_m1 (W_cell _), xor_m1 (W_cell _)]
  have h := Add_eq (-1 - v) 1
  rw [show W (-1 - v) = -1 - W v from by unfold W; omega, show W ((-1 - v) / 18446744073709551616) = -1 - W (v / 18446744073709551616) from by unfold W; omega, show W 1 = 1 from by decide, show W (1 / 18446744073709551616) = 0 from by decide] at h
  rw [h]
  show some _ = some _
  rw [show -1 - v + 1 = -v from by omega]
theorem and_u64 {n m : Int} (h1 : 0 ≤ n) (h2 : n < 18446744073709551616) (k : Nat) (hm : m = 2 ^ k - 1) (hk : k < 64) : ibits .and .u64 n m = n % 2 ^ k := by
  rw [ibits_def]
  show IntKind.wrap .u64 (((BitVec.ofInt 64 n &&& BitVec.ofInt 64 m).toNat : Nat) : Int) = _
  have hk2 : (2:Int) ^ k = ((2 ^ k : Nat) : Int) := by norm_cast
  have hp : 0 < 2 ^ k := Nat.two_pow_pos k
  have hlt : 2 ^ k < 2 ^ 64 := Nat.pow_lt_pow_right (by decide) hk
  have e1 : (BitVec.ofInt 64 m).toNat = 2 ^ k - 1 := by
    rw [BitVec.toNat_ofInt, hm, hk2]
    have : ((2:Nat) ^ 64 : Nat) = 18446744073709551616 := by decide
    rw [this] at hlt ⊢
    omega
  have e2 : (BitVec.ofInt 64 n).toNat = n.toNat := by
    rw [BitVec.toNat_ofInt]
    have : ((2:Nat) ^ 64 : Nat) = 18446744073709551616 := by decide
    rw [this]
    omega
  rw [BitVec.toNat_and, e1, e2, Nat.and_two_pow_sub_one_eq_mod, wu, hk2]
  have e3 : ((n.toNat % 2 ^ k : Nat) : Int) = n % ((2 ^ k : Nat) : Int) := by
    rw [Int.natCast_emod, Int.toNat_of_nonneg h1]
  rw [e3]
  have := Int.emod_nonneg n (b := ((2 ^ k : Nat) : Int)) (by omega)
  have := Int.emod_lt_of_pos n (b := ((2 ^ k : Nat) : Int)) (by omega)
  have h64 : ((2:Nat) ^ 64 : Nat) = 18446744073709551616 := by decide
  omega
theorem mul64_eq {a b : Int} (ha : 0 ≤ a) (ha' : a < 18446744073709551616) (hb : 0 ≤ b) (hb' : b < 18446744073709551616) :
    mul64 a b = ((a * b) / 18446744073709551616, (a * b) % 18446744073709551616) := by
  unfold mul64
  simp only [wu, fdiv_lit (show (0:Int) ≤ 4294967296 by decide)]
  have m0 : ∀ n : Int, 0 ≤ n → n < 18446744073709551616 → ibits .and .u64 n 4294967295 = n % 4294967296 := fun n h1 h2 => and_u64 h1 h2 32 (by decide) (by decide)
  rw [m0 a ha ha', m0 b hb hb']
  have ea : a = 4294967296 * (a / 4294967296) + a % 4294967296 := by omega
  have eb : b = 4294967296 * (b / 4294967296) + b % 4294967296 := by omega
  have ra0 : 0 ≤ a % 4294967296 := by omega
  have ra1 : a % 4294967296 ≤ 4294967295 := by omega
  have rb0 : 0 ≤ b % 4294967296 := by omega
  have rb1 : b % 4294967296 ≤ 4294967295 := by omega
  have qa0 : 0 ≤ a / 4294967296 := by omega
  have qa1 : a / 4294967296 ≤ 4294967295 := by omega
  have qb0 : 0 ≤ b / 4294967296 := by omega
  have qb1 : b / 4294967296 ≤ 4294967295 := by omega
  generalize hA1 : a / 4294967296 = a1 at *
  generalize hA0 : a % 4294967296 = a0 at *
  generalize hB1 : b / 4294967296 = b1 at *
  generalize hB0 : b % 4294967296 = b0 at *
  have bound : ∀ {x y : Int}, 0 ≤ x → x ≤ 4294967295 → 0 ≤ y → y ≤ 4294967295 → 0 ≤ x * y ∧ x * y ≤ 18446744065119617025 := fun {x y} h1 h2 h3 h4 =>
    ⟨Int.mul_nonneg h1 h3, by
      have := Int.mul_le_mul h2 h4 h3 (by decide : (0:Int) ≤ 4294967295)
      omega⟩
  have eab : a * b = 18446744073709551616 * (a1 * b1) + 4294967296 * (a1 * b0) + 4294967296 * (a0 * b1) + a0 * b0 := by
    rw [ea, eb, Int.mul_add, Int.add_mul, Int.add_mul]
    have e1 : 4294967296 * a1 * (4294967296 * b1) = 18446744073709551616 * (a1 * b1) := by
      rw [Int.mul_assoc, Int.mul_left_comm a1, ← Int.mul_assoc]; rfl
    have e2 : 4294967296 * a1 * b0 = 4294967296 * (a1 * b0) := Int.mul_assoc _ _ _
    have e3 : a0 * (4294967296 * b1) = 4294967296 * (a0 * b1) := Int.mul_left_comm _ _ _
    rw [e1, e2, e3]
    omega
  rw [eab]
  have p1 := bound qa0 qa1 qb0 qb1
  have p2 := bound qa0 qa1 rb0 rb1
  have p3 := bound ra0 ra1 qb0 qb1
  have p4 := bound ra0 ra1 rb0 rb1
  generalize a1 * b1 = x at *
  generalize a1 * b0 = y at *
  generalize a0 * b1 = z at *
  generalize a0 * b0 = w at *
  clear eab ea eb hA1 hA0 hB1 hB0 bound
  rw [m0 _ (by omega) (by omega)]
  refine Prod.ext ?_ ?_ <;> simp only <;> omega
end Go.Proofs.Dbl

/- Plain facts about digits: what a digit is, and what a text of digits comes to. -/
namespace Go.Proofs.Dbl
open Go Go.TX Go.Proofs
set_option maxRecDepth 100000
set_option maxHeartbeats 0
set_option linter.unusedVariables false
set_option linter.unusedSimpArgs false
def goodB (b : Int) : Bool := decide (2 ≤ b ∧ b ≤ 36)
theorem good_eq (b : Int) : num_good b = some (goodB b) := by
  unfold num_good num_good_t goodB
  by_cases h : b ≥ 2
  · rw [decide_eq_true h]; simp only [cond_true]; congr 2; simp; omega
  · rw [decide_eq_false h]; simp only [cond_false]; congr 1; symm; rw [decide_eq_false_iff_not]; omega
/-- A text, by its bytes. -/
def bs (l : List UInt8) : ByteArray := ⟨l.toArray⟩
theorem bs_of (s : ByteArray) : s = bs s.data.toList := by cases s; rfl
theorem bs_size (l : List UInt8) : (bs l).size = l.length := rfl
theorem bs_toList (l : List UInt8) : ByteArray.toList (bs l) = l := Go.ByteArray.toList_eq (bs l)
theorem bs_inj {a b : ByteArray} (h : a.data.toList = b.data.toList) : a = b := by
  rw [bs_of a, bs_of b, h]
end Go.Proofs.Dbl

/- Plain facts about what a text's number is. -/
namespace Go.Proofs.Dbl
open Go Go.TX Go.Proofs
set_option maxRecDepth 100000
set_option maxHeartbeats 0
set_option linter.unusedVariables false
set_option linter.unusedSimpArgs false
def starts (l p : List UInt8) : Bool := decide (p.length ≤ l.length) && (l.take p.length == p)
def ends (l p : List UInt8) : Bool := decide (p.length ≤ l.length) && (l.drop (l.length - p.length) == p)
/-- What is behind a sign of a base, and the base. -/
def pre (l : List UInt8) (b : Int) : List UInt8 × Int :=
  if starts l [35] = true then (l.drop 1, 10) else if starts l [36] = true then (l.drop 1, 16) else if starts l [37] = true then (l.drop 1, 2) else (l, b)
end Go.Proofs.Dbl

/- Plain facts about a number's text: by a base that is not ten. -/
namespace Go.Proofs.Dbl
open Go Go.TX Go.Proofs
set_option maxRecDepth 100000
set_option maxHeartbeats 0
set_option linter.unusedVariables false
set_option linter.unusedSimpArgs false
/-- Small digits. -/
def dchL : List UInt8 := [48, 49, 50, 51, 52, 53, 54, 55, 56, 57, 97, 98, 99, 100, 101, 102, 103, 104, 105, 106, 107, 108, 109, 110, 111, 112, 113, 114, 115, 116, 117, 118, 119, 120, 121, 122]
def dch (v : Nat) : UInt8 := dchL.getD v 0
def digs (b n : Nat) : List UInt8 := if h : n < b ∨ b < 2 then [dch n] else digs b (n / b) ++ [dch (n % b)]
termination_by n
decreasing_by exact Nat.div_lt_self (by omega) (by omega)
theorem digs_small {b n : Nat} (h : n < b) : digs b n = [dch n] := by rw [digs, dif_pos (.inl h)]
theorem digs_big {b n : Nat} (h : ¬ n < b) (hb : 2 ≤ b) : digs b n = digs b (n / b) ++ [dch (n % b)] := by rw [digs, dif_neg (by omega)]
def nums (l : List UInt8) : List Int := l.map fun b => (b.toNat : Int)
theorem strOf_nums (l : List UInt8) : strOf (nums l) = bs l := by
  have : ∀ (l : List UInt8) (a : ByteArray), ((nums l).foldl (fun r n => r.push (UInt8.ofNat n.toNat)) a).data.toList = a.data.toList ++ l := by
    intro l
    induction l with
    | nil => intro a; simp [nums]
    | cons x l ih =>
      intro a
      have e : nums (x :: l) = (x.toNat : Int) :: nums l := rfl
      rw [e, List.foldl_cons, ih]
      have : UInt8.ofNat ((x.toNat : Int)).toNat = x := by simp
      rw [this]
      show (a.data.push x).toList ++ l = _
      simp
  apply bs_inj
  unfold strOf
  rw [this]
  rfl
theorem drop_set {m0 : List Int} {k : Nat} (h : k < m0.length) (x : Int) : (m0.set k x).drop k = x :: m0.drop (k + 1) := by
  rw [List.drop_eq_getElem_cons (by simpa using h)]
  simp [List.drop_set]
/-- A run of rounds, whatever the loop: digits are laid from behind. -/
theorem rounds {D X : Type} {pass : D → Option (D ⊕ X)} {b : Nat} (hb : 2 ≤ b) (mk : Nat → Nat → List Int → D) (fin : Nat → Nat → List Int → X)
    (hs : ∀ (u i : Nat) (m : List Int), b ≤ u → u < 18446744073709551616 → 1 ≤ i → i ≤ 65 → m.length = 65 → pass (mk u i m) = some (.inl (mk (u / b) (i - 1) (m.set (i - 1) ((dch (u % b)).toNat : Int)))))
    (he : ∀ (u i : Nat) (m : List Int), u < b → pass (mk u i m) = some (.inr (fin u i m))) :
    ∀ (n u i : Nat) (m : List Int), u ≤ n → u < 18446744073709551616 → u < 2 ^ (i - 1) → 1 ≤ i → i ≤ 65 → m.length = 65 →
      ∃ (u' i' : Nat) (m' : List Int) (t : List UInt8), runs pass (mk u i m) = some (fin u' i' m') ∧ u' < b ∧ 1 ≤ i' ∧ i' ≤ i ∧ (i' = i ∧ u' = u ∨ 1 ≤ u' ∧ 2 ≤ i') ∧ m'.length = 65 ∧ digs b u = dch u' :: t ∧ m'.drop i' = nums t ++ m.drop i
  | n, u, i, m, hn, hu, hp, hi1, hi2, hm => by
    by_cases h : u < b
    · exact ⟨u, i, m, [], runs_out (he u i m h), h, hi1, Nat.le_refl _, .inl ⟨rfl, rfl⟩, hm, digs_small h, rfl⟩
    · have h' : b ≤ u := by omega
      have hstep := hs u i m h' hu hi1 hi2 hm
      have hi3 : 2 ≤ i := by
        rcases Nat.lt_or_ge i 2 with h2 | h2
        · have : i - 1 = 0 := by omega
          rw [this] at hp; simp at hp; omega
        · exact h2
      have hlt : u / b < 2 ^ (i - 1 - 1) := by
        have e : 2 ^ (i - 1) = 2 * 2 ^ (i - 1 - 1) := by
          rw [← Nat.pow_succ']; congr 1; omega
        have h1 : u / b ≤ u / 2 := Nat.div_le_div_left hb (by omega)
        omega
      have hq : 1 ≤ u / b := (Nat.one_le_div_iff (by omega)).2 h'
      have hdec : u / b < u := Nat.div_lt_self (by omega) (by omega)
      have hi4 : 2 ≤ i - 1 := by
        rcases Nat.lt_or_ge (i - 1) 2 with h2 | h2
        · have : i - 1 - 1 = 0 := by omega
          rw [this] at hlt; simp at hlt; omega
        · exact h2
      match n with
      | 0 => omega
      | n + 1 =>
        obtain ⟨u', i', m', t, r1, r2, r3, r4, r5, r6, r7, r8⟩ := rounds hb mk fin hs he n (u / b) (i - 1) (m.set (i - 1) ((dch (u % b)).toNat : Int)) (by omega) (by omega) hlt (by omega) (by omega) (by simpa using hm)
        refine ⟨u', i', m', t ++ [dch (u % b)], (runs_next hstep).trans r1, r2, r3, by omega, .inr ?_, r6, ?_, ?_⟩
        · rcases r5 with ⟨e1, e2⟩ | ⟨e1, e2⟩
          · omega
          · exact ⟨e1, e2⟩
        · rw [digs_big h hb, r7]; rfl
        · rw [r8, drop_set (by omega)]
          have : i - 1 + 1 = i := by omega
          rw [this]
          simp [nums]
theorem table_eq : (bytesOf [48, 49, 50, 51, 52, 53, 54, 55, 56, 57, 97, 98, 99, 100, 101, 102, 103, 104, 105, 106, 107, 108, 109, 110, 111, 112, 113, 114, 115, 116, 117, 118, 119, 120, 121, 122]).data.toList = dchL := rfl
abbrev FX := List Int × Int × Bool × Bool × List Int × ByteArray × Int × List Int
def fin8 (s0 : List Int) (s3 s4 : Bool) (s10 : List Int) (s11 : ByteArray) (u i : Nat) (m : List Int) : FX := (s0, (u : Int), s3, s4, s10, s11, (i : Int), m)
theorem index_ok {i : Nat} (h1 : 1 ≤ i) (h2 : i ≤ 65) : IntKind.wrap IntKind.i64 ((i : Int) - 1) = ((i - 1 : Nat) : Int) := by
  rw [wi, W_of ⟨by omega, by omega⟩]; omega
theorem loop2 {b : Nat} (hb : 2 ≤ b) (hb' : b ≤ 36) (s0 : List Int) (s3 s4 : Bool) (s10 : List Int) (s11 : ByteArray) {u i : Nat} {m : List Int} (hu : u < 18446744073709551616) (hp : u < 2 ^ (i - 1)) (h1 : 1 ≤ i) (h2 : i ≤ 65) (hm : m.length = 65) :
    ∃ (u' i' : Nat) (m' : List Int) (t : List UInt8), formatBits_L2 (s0, (u : Int), s3, s4, s10, s11, (i : Int), (b : Int), m) = some (fin8 s0 s3 s4 s10 s11 u' i' m') ∧
      u' < b ∧ 1 ≤ i' ∧ i' ≤ i ∧ (i' = i ∧ u' = u ∨ 1 ≤ u' ∧ 2 ≤ i') ∧ m'.length = 65 ∧ digs b u = dch u' :: t ∧ m'.drop i' = nums t ++ m.drop i := by
  refine rounds hb (pass := formatBits_L2_pass) (fun u i m => (s0, (u : Int), s3, s4, s10, s11, (i : Int), (b : Int), m)) (fin8 s0 s3 s4 s10 s11) ?_ ?_ u u i m (Nat.le_refl _) hu hp h1 h2 hm
  · intro u i m hbu hu h1 h2 hm
    have eq1 : IntKind.wrap IntKind.u64 (Int.tdiv (u : Int) (b : Int)) = ((u / b : Nat) : Int) := by
      have e : Int.tdiv (u : Int) (b : Int) = ((u / b : Nat) : Int) := by
        rw [Int.tdiv_eq_ediv_of_nonneg (by omega)]; norm_cast
      rw [wu, e]
      have := Nat.div_le_self u b
      generalize u / b = q at *
      omega
    have hmod : u % b = u - u / b * b := by
      have := Nat.div_add_mod u b
      rw [Nat.mul_comm] at this
      omega
    have hle : u / b * b ≤ u := Nat.div_mul_le_self u b
    have hlt : u % b < b := Nat.mod_lt _ (by omega)
    have eq2 : IntKind.wrap IntKind.u64 ((u : Int) - IntKind.wrap IntKind.u64 (((u / b : Nat) : Int) * (b : Int))) = ((u % b : Nat) : Int) := by
      have e : (((u / b : Nat) : Int) * (b : Int)) = ((u / b * b : Nat) : Int) := by norm_cast
      rw [e, wu, wu]
      omega
    show formatBits_L2_t s0 (u : Int) s3 s4 s10 s11 (i : Int) (b : Int) m _ _ = _
    unfold formatBits_L2_t
    rw [eq1, eq2, index_ok h1 h2, decide_eq_true (by omega), decide_eq_false (by omega), decide_eq_true (by omega), decide_eq_true (by omega)]
    simp only [cond_true, cond_false, Int.toNat_natCast, Nat.zero_add, table_eq]
    rfl
  · intro u i m h
    show formatBits_L2_t s0 (u : Int) s3 s4 s10 s11 (i : Int) (b : Int) m _ _ = _
    unfold formatBits_L2_t
    rw [decide_eq_false (by omega)]
    rfl
theorem loop1 {b k : Nat} (hk1 : 1 ≤ k) (hk2 : k ≤ 5) (hbk : b = 2 ^ k) (s0 : List Int) (s3 s4 : Bool) (s10 : List Int) (s11 : ByteArray) {u i : Nat} {m : List Int} (hu : u < 18446744073709551616) (hp : u < 2 ^ (i - 1)) (h1 : 1 ≤ i) (h2 : i ≤ 65) (hm : m.length = 65) :
    ∃ (u' i' : Nat) (m' : List Int) (t : List UInt8), formatBits_L1 (s0, (u : Int), s3, s4, s10, s11, (i : Int), (k : Int), (b : Int), (b : Int) - 1, m) = some (fin8 s0 s3 s4 s10 s11 u' i' m') ∧
      u' < b ∧ 1 ≤ i' ∧ i' ≤ i ∧ (i' = i ∧ u' = u ∨ 1 ≤ u' ∧ 2 ≤ i') ∧ m'.length = 65 ∧ digs b u = dch u' :: t ∧ m'.drop i' = nums t ++ m.drop i := by
  have hb : 2 ≤ b := by
    rw [hbk]; calc 2 = 2 ^ 1 := rfl
      _ ≤ 2 ^ k := Nat.pow_le_pow_right (by omega) hk1
  have hb' : b ≤ 32 := by
    rw [hbk]; calc 2 ^ k ≤ 2 ^ 5 := Nat.pow_le_pow_right (by omega) hk2
      _ = 32 := rfl
  refine rounds hb (pass := formatBits_L1_pass) (fun u i m => (s0, (u : Int), s3, s4, s10, s11, (i : Int), (k : Int), (b : Int), (b : Int) - 1, m)) (fin8 s0 s3 s4 s10 s11) ?_ ?_ u u i m (Nat.le_refl _) hu hp h1 h2 hm
  · intro u i m hbu hu h1 h2 hm
    have eb : (b : Int) = 2 ^ k := by rw [hbk]; norm_cast
    have eq1 : ibits BinOp.and IntKind.u64 (u : Int) ((b : Int) - 1) = ((u % b : Nat) : Int) := by
      rw [and_u64 (by omega) (by omega) k (by rw [eb]) (by omega), ← eb]; norm_cast
    have eq2 : Int.fdiv (u : Int) ((2 : Int) ^ min (Int.toNat (k : Int)) (64 : Nat)) = ((u / b : Nat) : Int) := by
      have : min (Int.toNat (k : Int)) 64 = k := by simp; omega
      rw [this, ← eb, fdiv_lit (by omega)]; norm_cast
    have hlt : u % b < b := Nat.mod_lt _ (by omega)
    show formatBits_L1_t s0 (u : Int) s3 s4 s10 s11 (i : Int) (k : Int) (b : Int) ((b : Int) - 1) m _ _ = _
    unfold formatBits_L1_t
    rw [eq1, eq2, index_ok h1 h2, decide_eq_true (by omega), decide_eq_true (by omega), decide_eq_true (by omega), decide_eq_false (by omega)]
    simp only [cond_true, cond_false, Int.toNat_natCast, Nat.zero_add, table_eq]
    rfl
  · intro u i m h
    show formatBits_L1_t s0 (u : Int) s3 s4 s10 s11 (i : Int) (k : Int) (b : Int) ((b : Int) - 1) m _ _ = _
    unfold formatBits_L1_t
    rw [decide_eq_false (by omega)]
    rfl
theorem isPow_eq (b : Nat) (h1 : 2 ≤ b) (h2 : b ≤ 36) : isPow (b : Int) = decide (b = 2 ∨ b = 4 ∨ b = 8 ∨ b = 16 ∨ b = 32) := by
  have : ∀ b : Fin 37, 2 ≤ b.val → (ibits0 BinOp.and IntKind.i64 (b.val : Int) (IntKind.wrap IntKind.i64 ((b.val : Int) - (1 : Int))) == (0 : Int)) = decide (b.val = 2 ∨ b.val = 4 ∨ b.val = 8 ∨ b.val = 16 ∨ b.val = 32) := by decide +kernel
  unfold isPow
  rw [ibits_def]
  exact this ⟨b, by omega⟩ h1
theorem tz_eq (k : Nat) (h1 : 1 ≤ k) (h2 : k ≤ 5) : tz ((2 ^ k : Nat) : Int) = some (k : Int) := by
  unfold tz tz_t tz64 tz64_t
  simp only [ibits_def]
  match k, h1, h2 with
  | 1, _, _ => decide +kernel
  | 2, _, _ => decide +kernel
  | 3, _, _ => decide +kernel
  | 4, _, _ => decide +kernel
  | 5, _, _ => decide +kernel
/-- A number's text by a base that is not ten: small digits. -/
theorem fmtBits_eq {b : Nat} (h1 : 2 ≤ b) (h2 : b ≤ 36) (h10 : b ≠ 10) (a0 : List Int) {u n : Nat} (hu : u < 18446744073709551616) (neg : Bool) (hn : if neg = true then (n + u) % 18446744073709551616 = 0 ∧ n < 18446744073709551616 else n = u) :
    formatBits a0 (u : Int) (b : Int) neg = some ([], bs ((if neg = true then [45] else []) ++ digs b n)) := by
  have hn64 : n < 18446744073709551616 := by
    cases neg
    · simp at hn; omega
    · simp at hn; exact hn.2
  have m1 : formatBits_M1 (b : Int) = some () := by
    unfold formatBits_M1 formatBits_M1_t
    have : ((b : Int) == 10) = false := by rw [beq_eq_false_iff_ne]; omega
    rw [decide_eq_false (by omega), this, decide_eq_false (by omega)]
    rfl
  have m2 : formatBits_M2 (u : Int) neg = some (n : Int) := by
    unfold formatBits_M2 formatBits_M2_t
    cases neg with
    | false => simp at hn; rw [hn]; rfl
    | true =>
      simp at hn
      simp only [cond_true]
      have e : ((0 : Int) - (u : Int)) % 18446744073709551616 = (n : Int) := by omega
      rw [wu, e]
  have wb : IntKind.wrap IntKind.u64 (b : Int) = (b : Int) := by rw [wu]; omega
  have key : ∀ z : List Int, z.length = 65 → ∃ (i : Nat) (m : List Int), formatBits_M3 a0 (n : Int) (b : Int) neg false [] (bytesOf []) (65 : Int) z = some (a0, neg, false, [], bytesOf [], (i : Int), m) ∧ 1 ≤ i ∧ i ≤ 64 ∧ m.length = 65 ∧ m.drop i = nums (digs b n) := by
    intro z hz
    have zd : z.drop 65 = [] := List.drop_eq_nil_of_le (by omega)
    have fin : ∀ (u' i' : Nat) (m' : List Int) (t : List UInt8), u' < b → 1 ≤ i' → i' ≤ 65 → (i' = 65 ∧ u' = n ∨ 1 ≤ u' ∧ 2 ≤ i') → m'.length = 65 → digs b n = dch u' :: t → m'.drop i' = nums t ++ z.drop 65 →
        ∃ (i : Nat) (m : List Int), (cond (decide ((0 : Int) ≤ (u' : Int) ∧ (u' : Int) < (36 : Int))) (cond (decide ((0 : Int) ≤ IntKind.wrap IntKind.i64 ((i' : Int) - (1 : Int)) ∧ IntKind.wrap IntKind.i64 ((i' : Int) - (1 : Int)) < (65 : Int) ∧ (0 : Nat) + Int.toNat (IntKind.wrap IntKind.i64 ((i' : Int) - (1 : Int))) < List.length m'))
            (some (a0, neg, false, ([] : List Int), bytesOf [], IntKind.wrap IntKind.i64 ((i' : Int) - (1 : Int)), List.set m' ((0 : Nat) + Int.toNat (IntKind.wrap IntKind.i64 ((i' : Int) - (1 : Int)))) ((List.getD dchL (Int.toNat (u' : Int)) 0).toNat : Int))) none) none) = some (a0, neg, false, ([] : List Int), bytesOf [], (i : Int), m) ∧ 1 ≤ i ∧ i ≤ 64 ∧ m.length = 65 ∧ m.drop i = nums (digs b n) := by
      intro u' i' m' t r2 r3 r4 r5 r6 r7 r8
      refine ⟨i' - 1, m'.set (i' - 1) ((dch u').toNat : Int), ?_, by omega, by omega, by simpa using r6, ?_⟩
      · rw [index_ok r3 (by omega), decide_eq_true (by omega), decide_eq_true (by omega)]
        simp only [cond_true, Int.toNat_natCast, Nat.zero_add]
        rfl
      · rw [drop_set (by omega), r7]
        have : i' - 1 + 1 = i' := by omega
        rw [this, r8, zd]
        simp [nums]
    unfold formatBits_M3 formatBits_M3_t
    rw [wb, isPow_eq b h1 h2]
    by_cases hpw : b = 2 ∨ b = 4 ∨ b = 8 ∨ b = 16 ∨ b = 32
    · obtain ⟨k, hk1, hk2, hbk⟩ : ∃ k, 1 ≤ k ∧ k ≤ 5 ∧ b = 2 ^ k := by
        rcases hpw with rfl | rfl | rfl | rfl | rfl
        · exact ⟨1, by omega, by omega, rfl⟩
        · exact ⟨2, by omega, by omega, rfl⟩
        · exact ⟨3, by omega, by omega, rfl⟩
        · exact ⟨4, by omega, by omega, rfl⟩
        · exact ⟨5, by omega, by omega, rfl⟩
      have htz : tz (b : Int) = some (k : Int) := by rw [hbk]; exact tz_eq k hk1 hk2
      obtain ⟨u', i', m', t, r1, r2, r3, r4, r5, r6, r7, r8⟩ := loop1 hk1 hk2 hbk a0 neg false [] (bytesOf []) (u := n) (i := 65) (m := z) hn64 (by simpa using hn64) (by omega) (by omega) hz
      have wk : IntKind.wrap IntKind.u64 (k : Int) = (k : Int) := by rw [wu]; omega
      have wb1 : IntKind.wrap IntKind.u64 ((b : Int) - 1) = (b : Int) - 1 := by rw [wu]; omega
      rw [decide_eq_true hpw, htz]
      simp only [cond_true, outOf, wk, wb1]
      have r1' : formatBits_L1 (a0, (n : Int), neg, false, [], bytesOf [], (65 : Int), (k : Int), (b : Int), (b : Int) - 1, z) = some (fin8 a0 neg false [] (bytesOf []) u' i' m') := r1
      rw [r1']
      exact fin u' i' m' t r2 r3 r4 r5 r6 r7 r8
    · obtain ⟨u', i', m', t, r1, r2, r3, r4, r5, r6, r7, r8⟩ := loop2 h1 h2 a0 neg false [] (bytesOf []) (u := n) (i := 65) (m := z) hn64 (by simpa using hn64) (by omega) (by omega) hz
      rw [decide_eq_false hpw]
      simp only [cond_false, outOf]
      have r1' : formatBits_L2 (a0, (n : Int), neg, false, [], bytesOf [], (65 : Int), (b : Int), z) = some (fin8 a0 neg false [] (bytesOf []) u' i' m') := r1
      rw [r1']
      exact fin u' i' m' t r2 r3 r4 r5 r6 r7 r8
  unfold formatBits formatBits_t
  rw [m1, m2]
  simp only [outOf]
  obtain ⟨i, m, e1, e2, e3, e4, e5⟩ := key [(0 : Int), (0 : Int), (0 : Int), (0 : Int), (0 : Int), (0 : Int), (0 : Int), (0 : Int), (0 : Int), (0 : Int), (0 : Int), (0 : Int), (0 : Int), (0 : Int), (0 : Int), (0 : Int), (0 : Int), (0 : Int), (0 : Int), (0 : Int), (0 : Int), (0 : Int), (0 : Int), (0 : Int), (0 : Int), (0 : Int), (0 : Int), (0 : Int), (0 : Int), (0 : Int), (0 : Int), (0 : Int), (0 : Int), (0 : Int), (0 : Int), (0 : Int), (0 : Int), (0 : Int), (0 : Int), (0 : Int), (0 : Int), (0 : Int), (0 : Int), (0 : Int), (0 : Int), (0 : Int), (0 : Int), (0 : Int), (0 : Int), (0 : Int), (0 : Int), (0 : Int), (0 : Int), (0 : Int), (0 : Int), (0 : Int), (0 : Int), (0 : Int), (0 : Int), (0 : Int), (0 : Int), (0 : Int), (0 : Int), (0 : Int), (0 : Int)] (by decide)
  rw [e1]
  simp only
  cases neg with
  | false =>
    simp only [cond_false]
    rw [decide_eq_true e4, decide_eq_true (by omega)]
    simp only [cond_true, Int.toNat_natCast]
    rw [List.take_of_length_le (by simp; omega), e5, strOf_nums]
    rfl
  | true =>
    rw [index_ok (by omega) (by omega), decide_eq_true (by omega)]
    simp only [cond_true, cond_false, Int.toNat_natCast, Nat.zero_add]
    rw [decide_eq_true (by simpa using e4), decide_eq_true (by omega)]
    simp only [cond_true]
    rw [List.take_of_length_le (by simp; omega), drop_set (by omega)]
    have : i - 1 + 1 = i := by omega
    rw [this, e5]
    have : (45 : Int) :: nums (digs b n) = nums (45 :: digs b n) := rfl
    rw [this, strOf_nums]
    rfl
end Go.Proofs.Dbl

/- Plain facts: digits one by one; a number's text. -/
namespace Go.Proofs.Dbl
open Go Go.TX Go.Proofs
set_option maxRecDepth 100000
set_option maxHeartbeats 0
set_option linter.unusedVariables false
set_option linter.unusedSimpArgs false
theorem dch_ascii (v : Nat) : (dch v).toNat < 128 := by
  have : ∀ c ∈ dchL, c.toNat < 128 := by decide
  unfold dch
  rw [List.getD_eq_getElem?_getD]
  cases h : dchL[v]? with
  | none => decide
  | some c => exact this c (List.mem_of_getElem? h)
theorem digs_ascii (b : Nat) : ∀ (n : Nat), ∀ c ∈ digs b n, c.toNat < 128 := by
  intro n
  induction n using Nat.strongRecOn with
  | ind n ih =>
    intro c hc
    rw [digs] at hc
    split at hc
    · simp only [List.mem_singleton] at hc; subst hc; exact dch_ascii _
    · rename_i h
      rcases List.mem_append.1 hc with h1 | h1
      · exact ih _ (Nat.div_lt_self (by omega) (by omega)) c h1
      · simp only [List.mem_singleton] at h1; subst h1; exact dch_ascii _
theorem digs_length (b : Nat) : ∀ (k n : Nat), n < 2 ^ k → (digs b n).length ≤ k + 1
  | 0, n, h => by
    have : n = 0 := by simpa using h
    subst this
    rw [digs]
    split
    · simp
    · rename_i h2; omega
  | k + 1, n, h => by
    rw [digs]
    split
    · simp
    · rename_i h2
      have : n / b ≤ n / 2 := Nat.div_le_div_left (by omega) (by omega)
      have e : 2 ^ (k + 1) = 2 * 2 ^ k := Nat.pow_succ'
      have := digs_length b k (n / b) (by omega)
      simp; omega
theorem upperS_bs (l : List UInt8) : upperS (bs l) = bs (Lib.toUpperA l) := rfl
theorem ascii_bs (l : List UInt8) : ascii (bs l) = l.all fun b => decide (b.toNat < 128) := rfl
/-- Capital digits. -/
def caps (b n : Nat) : List UInt8 := Lib.toUpperA (digs b n)
theorem fmtInt_eq {b : Nat} (h1 : 2 ≤ b) (h2 : b ≤ 36) (h10 : b ≠ 10) {n : Int} (hn : Cell n) :
    fmtInt n (b : Int) = some (bs ((if n < 0 then [45] else []) ++ digs b n.natAbs)) := by
  unfold Cell at hn
  unfold fmtInt fmtInt_t fmtInt0 fmtInt0_t
  have : ((b : Int) == 10) = false := by rw [beq_eq_false_iff_ne]; omega
  rw [this]
  simp only [cond_false]
  have wn : IntKind.wrap IntKind.u64 n = ((n % 18446744073709551616).toNat : Int) := by rw [wu]; omega
  rw [wn]
  by_cases h : n < 0
  · rw [decide_eq_true h, fmtBits_eq h1 h2 h10 [] (n := n.natAbs) (by omega) true (by simp; omega), if_pos h]
    rfl
  · rw [decide_eq_false h, fmtBits_eq h1 h2 h10 [] (n := n.natAbs) (by omega) false (by simp; omega), if_neg h]
    rfl
theorem upper_ok {l : List UInt8} (h1 : ∀ c ∈ l, c.toNat < 128) (h2 : l.length ≤ 140737488355328) : (ascii (bs l) && decide (ByteArray.size (bs l) ≤ (140737488355328 : Nat))) = true := by
  rw [ascii_bs, Bool.and_eq_true, List.all_eq_true]
  exact ⟨fun c hc => decide_eq_true (h1 c hc), decide_eq_true h2⟩
theorem Text_ne {b : Nat} (h1 : 2 ≤ b) (h2 : b ≤ 36) (h10 : b ≠ 10) {n : Int} (hn : Cell n) : num_Text n (b : Int) = some (bs ((if n < 0 then [45] else []) ++ caps b n.natAbs)) := by
  unfold num_Text num_Text_t
  have hg : goodB (b : Int) = true := decide_eq_true (by omega)
  rw [good_eq, hg, fmtInt_eq h1 h2 h10 hn]
  simp only [outOf, Bool.not_true, cond_false]
  have hl : (digs b n.natAbs).length ≤ 65 := digs_length b 64 _ (by unfold Cell at hn; omega)
  rw [upper_ok (l := (if n < 0 then [45] else []) ++ digs b n.natAbs) (fun c hc => by
    rcases List.mem_append.1 hc with h | h
    · split at h
      · simp only [List.mem_singleton] at h; subst h; decide
      · cases h
    · exact digs_ascii _ _ c h) (by
    simp only [List.length_append]
    split <;> simp <;> omega)]
  simp only [cond_true]
  rw [upperS_bs]
  unfold caps
  split <;> rfl
end Go.Proofs.Dbl

/- NumDoubles: the plain law. -/
namespace Go.Proofs.Dbl
open Go Go.TX Go.Proofs
set_option maxRecDepth 100000
set_option maxHeartbeats 0
set_option linter.unusedVariables false
set_option linter.unusedSimpArgs false
end Go.Proofs.Dbl

/- Plain facts: a number's text by base ten; by any base. -/
namespace Go.Proofs.Dbl
open Go Go.TX Go.Proofs
set_option maxRecDepth 100000
set_option maxHeartbeats 0
set_option linter.unusedVariables false
set_option linter.unusedSimpArgs false
theorem dch_ten {v : Nat} (h : v < 10) : dch v = UInt8.ofNat (48 + v) := by
  have : ∀ v : Fin 10, dch v.val = UInt8.ofNat (48 + v.val) := by decide
  exact this ⟨v, h⟩
theorem dec_digs (u : Nat) : Lib.decDigits u = digs 10 u := by
  induction u using Nat.strongRecOn with
  | ind u ih =>
    by_cases h : u < 10
    · rw [Lib.decDigits_one h, digs_small h, dch_ten h]
    · rw [Lib.decDigits, dif_neg h, digs_big h (by omega), ih _ (by omega), dch_ten (Nat.mod_lt _ (by omega))]
theorem small_eq {i : Nat} (h : i < 100) : small (i : Int) = some (bs (digs 10 i)) := by
  have : ∀ i : Fin 100, small_t (γ := ByteArray) (i.val : Int) some = some (bs (if i.val < 10 then [UInt8.ofNat (48 + i.val)] else [UInt8.ofNat (48 + i.val / 10), UInt8.ofNat (48 + i.val % 10)])) := by decide +kernel
  have h1 := this ⟨i, h⟩
  have h2 : small (i : Int) = small_t (γ := ByteArray) (i : Int) some := rfl
  rw [h2, h1, ← dec_digs]
  by_cases h3 : i < 10
  · rw [Lib.decDigits_one h3]; simp [h3]
  · rw [Lib.decDigits_two h3 h]; simp [h3]
theorem ten_at : ∀ i : Fin 20, tabTen.getD i.val 0 = ((10 ^ i.val : Nat) : Int) := by decide +kernel
theorem numDigits_val {u : Nat} (h1 : 1 ≤ u) (h2 : u < 18446744073709551616) : numDigits (u : Int) = some (Lib.nDigits u : Int) ∧ Lib.nDigits u ≤ 20 := by
  obtain ⟨e1, e2⟩ := Lib.numDigits_eq u h1 h2
  have hL : Lib.bitLen u ≤ 64 := Lib.bitLen_le u 64 (Nat.le_refl _) h2
  have hn : Lib.nDigits u ≤ 20 := by rw [← e1]; split <;> omega
  refine ⟨?_, hn⟩
  unfold numDigits numDigits_t
  have hl : log10p (held ((Lib.bitLen (Int.toNat (u : Int)) : Nat) : Int)) = (Lib.l10 (Lib.bitLen u) : Int) := by
    rw [held_is, Int.toNat_natCast]
    unfold log10p Lib.l10
    generalize Lib.bitLen u = L at hL
    rw [wi, W_of ⟨by omega, by omega⟩, fdiv_lit (by decide)]
    omega
  rw [hl, decide_eq_true (by omega), decide_eq_true (by omega)]
  simp only [cond_true, Nat.zero_add, Int.toNat_natCast]
  have ht := ten_at ⟨Lib.l10 (Lib.bitLen u), by omega⟩
  simp only at ht
  rw [ht]
  by_cases hb : 10 ^ Lib.l10 (Lib.bitLen u) ≤ u
  · rw [if_pos hb] at e1
    rw [decide_eq_true (by exact_mod_cast hb)]
    show some (IntKind.wrap IntKind.i64 ((Lib.l10 (Lib.bitLen u) : Int) + 1)) = _
    rw [wi, W_of ⟨by omega, by omega⟩]
    exact congrArg some (by omega)
  · rw [if_neg hb] at e1
    rw [decide_eq_false (by exact_mod_cast hb)]
    show some (IntKind.wrap IntKind.i64 ((Lib.l10 (Lib.bitLen u) : Int) + 0)) = _
    rw [wi, W_of ⟨by omega, by omega⟩]
    exact congrArg some (by omega)
theorem dec10_nums (u : Nat) : dec10 (Lib.nDigits u) (u : Int) = nums (digs 10 u) := by
  rw [← dec_digs, Lib.decDigits_eq]
  unfold dec10 nums
  rw [List.map_map, Int.toNat_natCast]
  rfl
theorem mid (z : List Int) {i n : Nat} (u : Int) (h : i + n ≤ z.length) : ((z.take i ++ dec10 n u ++ z.drop (i + n)).drop i).take n = dec10 n u := by
  have h1 : (z.take i).length = i := by simp; omega
  rw [List.append_assoc, List.drop_append_of_le_length (by omega), List.drop_eq_nil_of_le (by omega), List.nil_append, List.take_append_of_le_length (by rw [dec10_length]; omega), List.take_of_length_le (by rw [dec10_length]; omega)]
end Go.Proofs.Dbl

/- NumBad: the plain law. -/
namespace Go.Proofs.Dbl
open Go Go.TX Go.Proofs
set_option maxRecDepth 100000
set_option maxHeartbeats 0
set_option linter.unusedVariables false
set_option linter.unusedSimpArgs false
end Go.Proofs.Dbl

/- NumSteps: the plain law. -/
namespace Go.Proofs.Dbl
open Go Go.TX Go.Proofs
set_option maxRecDepth 100000
set_option maxHeartbeats 0
set_option linter.unusedVariables false
set_option linter.unusedSimpArgs false
/-- A digit, as a capital. -/
def cap (v : Nat) : UInt8 := Lib.upperB (dch v)
theorem caps_small {b n : Nat} (h : n < b) : caps b n = [cap n] := by unfold caps; rw [digs_small h]; rfl
theorem caps_big {b n : Nat} (h : ¬ n < b) (hb : 2 ≤ b) : caps b n = caps b (n / b) ++ [cap (n % b)] := by
  unfold caps; rw [digs_big h hb]; simp [Lib.toUpperA, cap]
theorem Sign_eq {v : Nat} (h : v < 36) : num_Sign (v : Int) = some (bs [cap v]) := by
  unfold num_Sign num_Sign_t num_Sign_M1 num_Sign_M1_t
  have hf : fmtInt (v : Int) ((36 : Nat) : Int) = _ := fmtInt_eq (by omega) (by omega) (by omega) (n := (v : Int)) ⟨by omega, by omega⟩
  have h36 : ((36 : Nat) : Int) = 36 := rfl
  rw [h36, if_neg (by omega), Int.natAbs_natCast, digs_small h] at hf
  rw [decide_eq_false (by omega), decide_eq_false (by omega)]
  simp only [cond_false, outOf, sumOf]
  rw [hf]
  simp only [List.nil_append]
  have hu : (ascii (bs [dch v]) && decide (ByteArray.size (bs [dch v]) ≤ (140737488355328 : Nat))) = true := upper_ok (fun c hc => by simp only [List.mem_singleton] at hc; subst hc; exact dch_ascii _) (by simp)
  rw [hu]
  rfl
end Go.Proofs.Dbl

/- Plain facts: a double divided by a small number. -/
namespace Go.Proofs.Dbl
open Go Go.TX Go.Proofs
set_option maxRecDepth 100000
set_option maxHeartbeats 0
set_option linter.unusedVariables false
set_option linter.unusedSimpArgs false
/-- Two numbers whose bits lie apart. -/
theorem or_u64 {x y : Int} (k : Nat) (hk : k < 64) (hx : 0 ≤ x) (hx' : x * 2 ^ k < 18446744073709551616) (hy : 0 ≤ y) (hy' : y < 2 ^ k) : ibits .or .u64 (x * 2 ^ k) y = x * 2 ^ k + y := by
  obtain ⟨a, rfl⟩ : ∃ a : Nat, x = a := ⟨x.toNat, by omega⟩
  obtain ⟨b, rfl⟩ : ∃ b : Nat, y = b := ⟨y.toNat, by omega⟩
  have ek : ((2 : Int) ^ k) = ((2 ^ k : Nat) : Int) := (Int.natCast_pow 2 k).symm
  have e : ((a : Int) * 2 ^ k) = ((a * 2 ^ k : Nat) : Int) := by rw [Int.natCast_mul, ek]
  have hb : b < 2 ^ k := by rw [ek] at hy'; exact Int.ofNat_lt.1 hy'
  rw [e] at hx' ⊢
  have hp : 2 ^ k ≤ 2 ^ 63 := Nat.pow_le_pow_right (by omega) (by omega)
  have h63 : (2 : Nat) ^ 63 = 9223372036854775808 := rfl
  have hsum : a * 2 ^ k + b < 18446744073709551616 := by
    have h1 : a * 2 ^ k < 18446744073709551616 := by omega
    have h2 : a * 2 ^ k + 2 ^ k ≤ 18446744073709551616 := by
      have : (18446744073709551616 : Nat) = 2 ^ (64 - k) * 2 ^ k := by
        rw [← Nat.pow_add, Nat.sub_add_cancel (by omega)]
      rw [this] at h1 ⊢
      have h3 : a < 2 ^ (64 - k) := Nat.lt_of_mul_lt_mul_right h1
      have h4 : (a + 1) * 2 ^ k ≤ 2 ^ (64 - k) * 2 ^ k := Nat.mul_le_mul_right _ h3
      rw [Nat.add_mul] at h4
      omega
    omega
  rw [ibits_def]
  show IntKind.wrap .u64 (((BitVec.ofInt 64 ((a * 2 ^ k : Nat) : Int) ||| BitVec.ofInt 64 (b : Int)).toNat : Nat) : Int) = _
  rw [BitVec.toNat_or]
  have e1 : (BitVec.ofInt 64 ((a * 2 ^ k : Nat) : Int)).toNat = a * 2 ^ k := by
    rw [BitVec.toNat_ofInt]; omega
  have e2 : (BitVec.ofInt 64 (b : Int)).toNat = b := by
    rw [BitVec.toNat_ofInt]; omega
  rw [e1, e2, wu]
  have e3 : a * 2 ^ k ||| b = a * 2 ^ k + b := by
    rw [← Nat.shiftLeft_eq, Nat.shiftLeft_add_eq_or_of_lt hb]
  rw [e3]
  omega
theorem bitLen_small : ∀ b : Fin 37, 2 ≤ b.val → 2 ≤ Lib.bitLen b.val ∧ Lib.bitLen b.val ≤ 6 ∧ 2 ^ (Lib.bitLen b.val - 1) ≤ b.val ∧ b.val < 2 ^ Lib.bitLen b.val := by decide +kernel
theorem lz64_eq {b : Nat} (h1 : 2 ≤ b) (h2 : b ≤ 36) : lz64 (b : Int) = some ((64 - Lib.bitLen b : Nat) : Int) := by
  obtain ⟨l1, l2, _, _⟩ := bitLen_small ⟨b, by omega⟩ h1
  simp only at l1 l2
  unfold lz64 lz64_t
  have c1 : decide ((0 : Int) ≤ (b : Int) ∧ (b : Int) ≤ (18446744073709551615 : Int)) = true := decide_eq_true (by omega)
  rw [c1, held_is, Int.toNat_natCast, wi]
  simp only [cond_true]
  generalize Lib.bitLen b = L at l1 l2
  have e : W ((64 : Int) - (L : Int)) = ((64 - L : Nat) : Int) := by
    rw [W_of ⟨by omega, by omega⟩]; omega
  rw [e]
/-- Long division of two digits by one, where the divisor's low half is nought. -/
theorem div_core {hi lo b D P Q : Int} (hP : P = D * 4294967296) (hPQ : P * Q = 18446744073709551616) (hD : 0 < D) (hQ : 0 < Q) (hb : 0 < b) (h0 : 0 ≤ hi) (h1 : hi < b) (l0 : 0 ≤ lo) (l1 : lo < 18446744073709551616) :
    let U := hi * P + lo / Q
    let d := b * D
    let t := (lo * P) % 18446744073709551616
    let V := U % d * 4294967296 + t / 4294967296
    (U / d * 4294967296 + V / d) = (hi * 18446744073709551616 + lo) / b ∧ (V % d * 4294967296 + t % 4294967296) / P = (hi * 18446744073709551616 + lo) % b := by
  intro U d t V
  have hd : 0 < d := Int.mul_pos hb hD
  have eU := Int.emod_add_mul_ediv U d
  have eV := Int.emod_add_mul_ediv V d
  have et := Int.emod_add_mul_ediv t 4294967296
  have rV0 := Int.emod_nonneg V (b := d) (by omega)
  have rV1 := Int.emod_lt_of_pos V hd
  have rt0 := Int.emod_nonneg t (b := 4294967296) (by omega)
  have rt1 := Int.emod_lt_of_pos t (b := 4294967296) (by omega)
  have hPpos : 0 < P := by omega
  -- what is divided, moved up
  have elo := Int.emod_add_mul_ediv lo Q
  have q0 := Int.emod_nonneg lo (b := Q) (by omega)
  have q1 := Int.emod_lt_of_pos lo hQ
  have et2 : t = lo % Q * P := by
    have h : lo * P = lo % Q * P + 18446744073709551616 * (lo / Q) := by
      calc lo * P = (lo % Q + Q * (lo / Q)) * P := by rw [elo]
        _ = lo % Q * P + (P * Q) * (lo / Q) := by rw [Int.add_mul]; congr 1; rw [Int.mul_comm P Q, Int.mul_assoc, Int.mul_assoc, Int.mul_comm (lo / Q) P]
        _ = _ := by rw [hPQ]
    have hlt : lo % Q * P < 18446744073709551616 := by
      rw [← hPQ, Int.mul_comm P Q]
      exact Int.mul_lt_mul_of_pos_right q1 hPpos
    have hge : 0 ≤ lo % Q * P := Int.mul_nonneg q0 (by omega)
    show lo * P % 18446744073709551616 = _
    rw [h, Int.add_mul_emod_self_left, Int.emod_eq_of_lt hge hlt]
  have eM : (hi * 18446744073709551616 + lo) * P = U * 18446744073709551616 + t := by
    show _ = (hi * P + lo / Q) * 18446744073709551616 + t
    rw [et2, Int.add_mul, Int.add_mul]
    have : lo * P = lo / Q * 18446744073709551616 + lo % Q * P := by
      calc lo * P = (lo % Q + Q * (lo / Q)) * P := by rw [elo]
        _ = lo % Q * P + (lo / Q) * (P * Q) := by rw [Int.add_mul]; congr 1; rw [Int.mul_comm P Q, Int.mul_comm Q (lo / Q), Int.mul_assoc]
        _ = _ := by rw [hPQ]; omega
    rw [this]
    have : hi * 18446744073709551616 * P = hi * P * 18446744073709551616 := by rw [Int.mul_assoc, Int.mul_assoc, Int.mul_comm P]
    omega
  have key : (hi * 18446744073709551616 + lo) * P = (U / d * 4294967296 + V / d) * b * P + (V % d * 4294967296 + t % 4294967296) := by
    have e1 : (U / d * 4294967296 + V / d) * b * P = (U / d * 4294967296 + V / d) * d * 4294967296 := by
      rw [hP]
      show _ = (U / d * 4294967296 + V / d) * (b * D) * 4294967296
      rw [Int.mul_assoc, Int.mul_assoc, Int.mul_assoc]
    have e2 : (U / d * 4294967296 + V / d) * d = d * (U / d) * 4294967296 + d * (V / d) := by
      rw [Int.add_mul, Int.mul_comm (V / d) d]; congr 1
      rw [Int.mul_comm (U / d) 4294967296, Int.mul_assoc, Int.mul_comm (U / d) d, Int.mul_comm]
    rw [eM, e1, e2]
    have eV' : V = U % d * 4294967296 + t / 4294967296 := rfl
    generalize d * (U / d) = x1 at *
    generalize d * (V / d) = x2 at *
    omega
  have hR0 : 0 ≤ V % d * 4294967296 + t % 4294967296 := by omega
  have hR1 : V % d * 4294967296 + t % 4294967296 < b * P := by
    have : b * P = d * 4294967296 := by rw [hP]; show _ = b * D * 4294967296; rw [Int.mul_assoc]
    rw [this]; omega
  generalize U / d * 4294967296 + V / d = q at *
  generalize V % d * 4294967296 + t % 4294967296 = R at *
  have hR : R = (hi * 18446744073709551616 + lo - q * b) * P := by rw [Int.sub_mul]; omega
  have hdiv : R / P = hi * 18446744073709551616 + lo - q * b := by rw [hR]; exact Int.mul_ediv_cancel _ (by omega)
  have r0 : 0 ≤ R / P := Int.ediv_nonneg hR0 (by omega)
  have r1 : R / P < b := Int.ediv_lt_of_lt_mul hPpos hR1
  have em : hi * 18446744073709551616 + lo = R / P + b * q := by rw [hdiv, Int.mul_comm b q]; omega
  refine ⟨?_, ?_⟩
  · rw [em, Int.add_mul_ediv_left _ _ (by omega), Int.ediv_eq_zero_of_lt r0 r1]; omega
  · conv => rhs; rw [em]
    rw [Int.add_mul_emod_self_left, Int.emod_eq_of_lt r0 r1]
end Go.Proofs.Dbl

/- Plain facts: bits.Div64 by a small number. -/
namespace Go.Proofs.Dbl
open Go Go.TX Go.Proofs
set_option maxRecDepth 100000
set_option maxHeartbeats 0
set_option linter.unusedVariables false
set_option linter.unusedSimpArgs false
theorem loopA {Y s d U a1 a0 q r : Int} (hq : q < 4294967296) : div64_L1 (Y, s, d, 0, U, a1, a0, q, r) = some (Y, s, d, 0, U, a1, a0, q) := by
  refine runs_out ?_
  show div64_L1_t Y s d 0 U a1 a0 q r _ _ = _
  unfold div64_L1_t
  have h : ¬ (IntKind.wrap IntKind.u64 (q * 0) > IntKind.wrap IntKind.u64 (IntKind.wrap IntKind.u64 ((4294967296 : Int) * r) + a1)) := by
    rw [wu, wu, wu]; omega
  rw [decide_eq_false (show ¬ q ≥ 4294967296 by omega), decide_eq_false h]
  rfl
theorem loopB {Y s d a0 q1 r V q : Int} (hq : q < 4294967296) : div64_L2 (Y, s, d, 0, a0, q1, r, V, q) = some (Y, s, a0, q1, V, q) := by
  refine runs_out ?_
  show div64_L2_t Y s d 0 a0 q1 r V q _ _ = _
  unfold div64_L2_t
  have h : ¬ (IntKind.wrap IntKind.u64 (q * 0) > IntKind.wrap IntKind.u64 (IntKind.wrap IntKind.u64 ((4294967296 : Int) * r) + a0)) := by
    rw [wu, wu, wu]; omega
  rw [decide_eq_false (show ¬ q ≥ 4294967296 by omega), decide_eq_false h]
  rfl
theorem wrap3 (x y z : Int) : IntKind.wrap IntKind.u64 (IntKind.wrap IntKind.u64 (IntKind.wrap IntKind.u64 x + y) - IntKind.wrap IntKind.u64 z) = (x + y - z) % 18446744073709551616 := by
  simp only [wu]; omega
theorem div64_eq {hi lo : Int} {b : Nat} (b1 : 2 ≤ b) (b2 : b ≤ 36) (h0 : 0 ≤ hi) (h1 : hi < b) (l0 : 0 ≤ lo) (l1 : lo < 18446744073709551616) :
    div64 hi lo (b : Int) = some ((hi * 18446744073709551616 + lo) / b, (hi * 18446744073709551616 + lo) % b) := by
  have m1 : div64_M1 (b : Int) = some () := by
    unfold div64_M1 div64_M1_t
    have : ((b : Int) == 0) = false := by rw [beq_eq_false_iff_ne]; omega
    rw [this]; rfl
  have m2 : div64_M2 hi (b : Int) = some () := by
    unfold div64_M2 div64_M2_t
    rw [decide_eq_false (by omega)]; rfl
  unfold div64 div64_t
  rw [m1, m2]
  simp only [outOf]
  by_cases hz : hi = 0
  · subst hz
    have e0 : ((0 : Int) == 0) = true := rfl
    have eb : decide ((b : Int) = 0) = false := decide_eq_false (by omega)
    simp only [e0, eb, cond_true, cond_false]
    rw [Int.tdiv_eq_ediv_of_nonneg l0, Int.tmod_eq_emod_of_nonneg l0, wu]
    have hq : 0 ≤ lo / (b : Int) := Int.ediv_nonneg l0 (by omega)
    have hq2 : lo / (b : Int) ≤ lo := Int.ediv_le_self _ l0
    rw [Int.emod_eq_of_lt hq (by omega)]
    simp
  · have e0 : (hi == 0) = false := by rw [beq_eq_false_iff_ne]; exact hz
    obtain ⟨l1', l2', l3', l4'⟩ := bitLen_small ⟨b, by omega⟩ b1
    simp only at l1' l2' l3' l4'
    rw [e0, lz64_eq b1 b2]
    simp only [cond_false]
    generalize Lib.bitLen b = L at l1' l2' l3' l4'
    obtain ⟨s, hs, hs2⟩ : ∃ s : Nat, s = 64 - L ∧ 58 ≤ s ∧ s ≤ 62 := ⟨64 - L, rfl, by omega, by omega⟩
    rw [← hs]
    obtain ⟨P, D, Q, eP, eQ, hP, hPQ, hD, hQ, hbQ⟩ : ∃ P D Q : Int, (2 : Int) ^ s = P ∧ (2 : Int) ^ (64 - s) = Q ∧ P = D * 4294967296 ∧ P * Q = 18446744073709551616 ∧ 0 < D ∧ 0 < Q ∧ (b : Int) < Q := by
      have hL : L = 6 ∨ L = 5 ∨ L = 4 ∨ L = 3 ∨ L = 2 := by omega
      rcases hL with rfl | rfl | rfl | rfl | rfl
      · subst hs; exact ⟨288230376151711744, 67108864, 64, by decide, by decide, by decide, by decide, by decide, by decide, by omega⟩
      · subst hs; exact ⟨576460752303423488, 134217728, 32, by decide, by decide, by decide, by decide, by decide, by decide, by omega⟩
      · subst hs; exact ⟨1152921504606846976, 268435456, 16, by decide, by decide, by decide, by decide, by decide, by decide, by omega⟩
      · subst hs; exact ⟨2305843009213693952, 536870912, 8, by decide, by decide, by decide, by decide, by decide, by decide, by omega⟩
      · subst hs; exact ⟨4611686018427387904, 1073741824, 4, by decide, by decide, by decide, by decide, by decide, by decide, by omega⟩
    have ws : IntKind.wrap IntKind.u64 (s : Int) = (s : Int) := by rw [wu]; omega
    have w64 : IntKind.wrap IntKind.u64 ((64 : Int) - (s : Int)) = ((64 - s : Nat) : Int) := by rw [wu]; omega
    have n1 : min (Int.toNat (s : Int)) 64 = s := by simp; omega
    have n2 : min (Int.toNat ((64 - s : Nat) : Int)) 64 = 64 - s := by simp
    have s0 : decide ((s : Int) < (0 : Int)) = false := decide_eq_false (by omega)
    have s1 : decide (((64 - s : Nat) : Int) < (0 : Int)) = false := decide_eq_false (by omega)
    rw [ws, w64, n1, n2, s0, s1, eP, eQ]
    simp only [cond_false]
    have c := div_core hP hPQ hD hQ (b := (b : Int)) (hi := hi) (lo := lo) (by omega) h0 h1 l0 l1
    simp only at c
    have hPpos : 0 < P := by omega
    have hd : 0 < (b : Int) * D := Int.mul_pos (by omega) hD
    have hY0 : 0 ≤ (b : Int) * P := Int.mul_nonneg (by omega) (by omega)
    have hY1 : (b : Int) * P < 18446744073709551616 := by
      rw [← hPQ, Int.mul_comm P Q]
      exact Int.mul_lt_mul_of_pos_right hbQ hPpos
    have hYd : (b : Int) * P = (b : Int) * D * 4294967296 := by rw [hP, Int.mul_assoc]
    have hH0 : 0 ≤ hi * P := Int.mul_nonneg h0 (by omega)
    have hH1 : hi * P < (b : Int) * P := Int.mul_lt_mul_of_pos_right h1 hPpos
    have hlQ0 : 0 ≤ lo / Q := Int.ediv_nonneg l0 (by omega)
    have hlQ1 : lo / Q < P := Int.ediv_lt_of_lt_mul hQ (by rw [hPQ]; exact l1)
    have hU1 : hi * P + lo / Q < (b : Int) * P := by
      have : (hi + 1) * P ≤ (b : Int) * P := Int.mul_le_mul_of_nonneg_right (by omega) (by omega)
      rw [Int.add_mul, Int.one_mul] at this
      omega
    have eY : IntKind.wrap IntKind.u64 ((b : Int) * P) = (b : Int) * P := by rw [wu, Int.emod_eq_of_lt hY0 hY1]
    have ed : Int.fdiv ((b : Int) * P) 4294967296 = (b : Int) * D := by
      rw [fdiv_lit (by decide), hYd]; exact Int.mul_ediv_cancel _ (by decide)
    have ey0 : ibits BinOp.and IntKind.u64 ((b : Int) * P) 4294967295 = 0 := by
      rw [and_u64 hY0 hY1 32 (by decide) (by decide), hYd]
      exact Int.mul_emod_left _ _
    have eH : IntKind.wrap IntKind.u64 (hi * P) = hi * P := by rw [wu, Int.emod_eq_of_lt hH0 (by omega)]
    have eor : ibits BinOp.or IntKind.u64 (hi * P) (Int.fdiv lo Q) = hi * P + lo / Q := by
      rw [fdiv_lit (by omega)]
      have := or_u64 (x := hi) (y := lo / Q) s (by omega) h0 (by rw [eP]; omega) hlQ0 (by rw [eP]; exact hlQ1)
      rw [eP] at this
      exact this
    have et : IntKind.wrap IntKind.u64 (lo * P) = lo * P % 18446744073709551616 := wu _
    have ht0 := Int.emod_nonneg (lo * P) (b := 18446744073709551616) (by decide)
    have ht1 := Int.emod_lt_of_pos (lo * P) (b := 18446744073709551616) (by decide)
    have eand : ibits BinOp.and IntKind.u64 (lo * P % 18446744073709551616) 4294967295 = lo * P % 18446744073709551616 % 4294967296 := and_u64 ht0 ht1 32 (by decide) (by decide)
    rw [eY, ed, ey0, eH, eor, et, eand, fdiv_lit (show (0:Int) ≤ 4294967296 by decide)]
    generalize lo * P % 18446744073709551616 = t at *
    have hU0 : 0 ≤ hi * P + lo / Q := by omega
    generalize hi * P + lo / Q = U at *
    clear eor eH hH0 hH1 hlQ0 hlQ1 et eand
    generalize (b : Int) * D = d at *
    have q1a : 0 ≤ U / d := Int.ediv_nonneg hU0 (by omega)
    have q1b : U / d < 4294967296 := Int.ediv_lt_of_lt_mul hd (by rw [Int.mul_comm]; omega)
    have r1a := Int.emod_nonneg U (b := d) (by omega)
    have r1b := Int.emod_lt_of_pos U hd
    have eU := Int.emod_add_mul_ediv U d
    have f0 : Int.tdiv U d = U / d := Int.tdiv_eq_ediv_of_nonneg hU0
    have f1 : IntKind.wrap IntKind.u64 (U / d) = U / d := by rw [wu, Int.emod_eq_of_lt q1a (by omega)]
    have nz : decide (d = 0) = false := decide_eq_false (by omega)
    rw [f0, f1, nz]
    simp only [cond_false]
    rw [loopA q1b]
    simp only
    rw [nz]
    simp only [cond_false]
    have V0 : IntKind.wrap IntKind.u64 (IntKind.wrap IntKind.u64 (IntKind.wrap IntKind.u64 (U * 4294967296) + t / 4294967296) - IntKind.wrap IntKind.u64 (U / d * ((b : Int) * P))) = U % d * 4294967296 + t / 4294967296 := by
      rw [wrap3, hYd]
      have : U * 4294967296 + t / 4294967296 - U / d * (d * 4294967296) = U % d * 4294967296 + t / 4294967296 := by
        have : U / d * (d * 4294967296) = d * (U / d) * 4294967296 := by rw [← Int.mul_assoc, Int.mul_comm (U / d) d]
        rw [this]
        generalize d * (U / d) = x at *
        omega
      rw [this, Int.emod_eq_of_lt (by omega) (by omega)]
    rw [V0]
    have hV0 : 0 ≤ U % d * 4294967296 + t / 4294967296 := by omega
    have hV1 : U % d * 4294967296 + t / 4294967296 < d * 4294967296 := by omega
    generalize U % d * 4294967296 + t / 4294967296 = V at *
    have q0a : 0 ≤ V / d := Int.ediv_nonneg hV0 (by omega)
    have q0b : V / d < 4294967296 := Int.ediv_lt_of_lt_mul hd (by rw [Int.mul_comm]; omega)
    have f2 : Int.tdiv V d = V / d := Int.tdiv_eq_ediv_of_nonneg hV0
    have f3 : IntKind.wrap IntKind.u64 (V / d) = V / d := by rw [wu, Int.emod_eq_of_lt q0a (by omega)]
    rw [f2, f3, loopB q0b]
    simp only
    rw [s0, n1, eP]
    simp only [cond_false]
    have eV := Int.emod_add_mul_ediv V d
    have r0a := Int.emod_nonneg V (b := d) (by omega)
    have r0b := Int.emod_lt_of_pos V hd
    have R0 : IntKind.wrap IntKind.u64 (IntKind.wrap IntKind.u64 (IntKind.wrap IntKind.u64 (V * 4294967296) + t % 4294967296) - IntKind.wrap IntKind.u64 (V / d * ((b : Int) * P))) = V % d * 4294967296 + t % 4294967296 := by
      rw [wrap3, hYd]
      have : V * 4294967296 + t % 4294967296 - V / d * (d * 4294967296) = V % d * 4294967296 + t % 4294967296 := by
        have : V / d * (d * 4294967296) = d * (V / d) * 4294967296 := by rw [← Int.mul_assoc, Int.mul_comm (V / d) d]
        rw [this]
        generalize d * (V / d) = x at *
        omega
      rw [this, Int.emod_eq_of_lt (by omega) (by omega)]
    have Q0 : IntKind.wrap IntKind.u64 (IntKind.wrap IntKind.u64 (U / d * 4294967296) + V / d) = U / d * 4294967296 + V / d := by
      rw [wu, wu]; omega
    rw [R0, Q0, fdiv_lit (by omega), c.1, c.2]
end Go.Proofs.Dbl

/- Plain facts: a signed number's text, by every base. -/
namespace Go.Proofs.Dbl
open Go Go.TX Go.Proofs
set_option maxRecDepth 100000
set_option maxHeartbeats 0
set_option linter.unusedVariables false
set_option linter.unusedSimpArgs false
theorem set_mid (z : List Int) {n : Nat} (u : Int) (h : 1 + n ≤ z.length) : (((z.take 1 ++ dec10 n u ++ z.drop (1 + n)).set 0 45).drop 0).take (1 + n) = 45 :: dec10 n u := by
  cases z with
  | nil => simp at h
  | cons x r =>
    simp only [List.take_succ_cons, List.take_zero, List.cons_append, List.nil_append, List.set_cons_zero, List.drop_zero]
    rw [Nat.add_comm 1 n, List.take_succ_cons, List.take_append_of_le_length (by rw [dec10_length]; omega), List.take_of_length_le (by rw [dec10_length]; omega)]
theorem ten_tail {a : Int} {u : Nat} (hu1 : 1 ≤ u) (hu : u < 18446744073709551616) (z : List Int) (hz : z.length = 24) :
    (outOf (numDigits (u : Int)) fun (x12 : Int) => cond (decide ((0 : Int) ≤ (1 : Int) ∧ (1 : Int) ≤ IntKind.wrap IntKind.i64 ((1 : Int) + x12) ∧ IntKind.wrap IntKind.i64 ((1 : Int) + x12) ≤ (24 : Int))) (cond (decide ((0 : Int) ≤ (u : Int) ∧ (u : Int) < (18446744073709551616 : Int) ∧ Int.toNat (u : Int) < (10 : Nat) ^ (Int.toNat (IntKind.wrap IntKind.i64 ((1 : Int) + x12)) - (1 : Nat)) ∧ (0 : Nat) < Int.toNat (IntKind.wrap IntKind.i64 ((1 : Int) + x12)) - (1 : Nat) ∧ (1 : Nat) + (Int.toNat (IntKind.wrap IntKind.i64 ((1 : Int) + x12)) - (1 : Nat)) ≤ (24 : Nat) ∧ Int.toNat (IntKind.wrap IntKind.i64 ((1 : Int) + x12)) - (1 : Nat) < (4611686018427387904 : Nat)))
      (cond (decide (a < (0 : Int)))
        (cond (decide (List.length (List.set (List.take (1 : Nat) z ++ dec10 (Int.toNat (IntKind.wrap IntKind.i64 ((1 : Int) + x12)) - (1 : Nat)) (u : Int) ++ List.drop ((1 : Nat) + (Int.toNat (IntKind.wrap IntKind.i64 ((1 : Int) + x12)) - (1 : Nat))) z) (0 : Nat) (45 : Int)) = (24 : Nat))) (cond (decide ((0 : Int) ≤ (0 : Int) ∧ (0 : Int) ≤ IntKind.wrap IntKind.i64 ((1 : Int) + x12) ∧ IntKind.wrap IntKind.i64 ((1 : Int) + x12) ≤ (24 : Int)))
          (some (strOf (List.take (Int.toNat (IntKind.wrap IntKind.i64 ((1 : Int) + x12)) - (0 : Nat)) (List.drop (0 : Nat) (List.set (List.take (1 : Nat) z ++ dec10 (Int.toNat (IntKind.wrap IntKind.i64 ((1 : Int) + x12)) - (1 : Nat)) (u : Int) ++ List.drop ((1 : Nat) + (Int.toNat (IntKind.wrap IntKind.i64 ((1 : Int) + x12)) - (1 : Nat))) z) (0 : Nat) (45 : Int)))))) (none)) (none))
        (cond (decide (List.length (List.take (1 : Nat) z ++ dec10 (Int.toNat (IntKind.wrap IntKind.i64 ((1 : Int) + x12)) - (1 : Nat)) (u : Int) ++ List.drop ((1 : Nat) + (Int.toNat (IntKind.wrap IntKind.i64 ((1 : Int) + x12)) - (1 : Nat))) z) = (24 : Nat))) (cond (decide ((0 : Int) ≤ (1 : Int) ∧ (1 : Int) ≤ IntKind.wrap IntKind.i64 ((1 : Int) + x12) ∧ IntKind.wrap IntKind.i64 ((1 : Int) + x12) ≤ (24 : Int)))
          (some (strOf (List.take (Int.toNat (IntKind.wrap IntKind.i64 ((1 : Int) + x12)) - (1 : Nat)) (List.drop (1 : Nat) (List.take (1 : Nat) z ++ dec10 (Int.toNat (IntKind.wrap IntKind.i64 ((1 : Int) + x12)) - (1 : Nat)) (u : Int) ++ List.drop ((1 : Nat) + (Int.toNat (IntKind.wrap IntKind.i64 ((1 : Int) + x12)) - (1 : Nat))) z))))) (none)) (none))) (none)) (none)) =
    some (bs ((if a < 0 then [45] else []) ++ digs 10 u)) := by
  obtain ⟨e1, e2⟩ := numDigits_val hu1 hu
  have hp := Lib.lt_pow_nDigits u
  have hq := Lib.nDigits_pos u
  rw [e1]
  simp only [outOf]
  have hd := dec10_nums u
  generalize Lib.nDigits u = m at *
  have w : IntKind.wrap IntKind.i64 ((1 : Int) + (m : Int)) = ((1 + m : Nat) : Int) := by rw [wi, W_of ⟨by omega, by omega⟩]; omega
  have hm : 1 + m - 1 = m := by omega
  rw [w]
  simp only [Int.toNat_natCast, hm]
  have c1 : decide ((0 : Int) ≤ 1 ∧ (1 : Int) ≤ ((1 + m : Nat) : Int) ∧ ((1 + m : Nat) : Int) ≤ 24) = true := decide_eq_true (by omega)
  have c2 : decide ((0 : Int) ≤ (u : Int) ∧ (u : Int) < (18446744073709551616 : Int) ∧ u < 10 ^ m ∧ 0 < m ∧ 1 + m ≤ 24 ∧ m < 4611686018427387904) = true := decide_eq_true (by omega)
  have c3 : decide ((0 : Int) ≤ 0 ∧ (0 : Int) ≤ ((1 + m : Nat) : Int) ∧ ((1 + m : Nat) : Int) ≤ 24) = true := decide_eq_true (by omega)
  rw [c1, c2, c3]
  simp only [cond_true]
  by_cases h : a < 0
  · rw [decide_eq_true h, if_pos h, decide_eq_true (by simp [dec10_length]; omega)]
    simp only [cond_true, Nat.sub_zero]
    rw [set_mid z _ (by omega), hd]
    have : (45 : Int) :: nums (digs 10 u) = nums (45 :: digs 10 u) := rfl
    rw [this, strOf_nums]
    rfl
  · rw [decide_eq_false h, if_neg h]
    simp only [cond_false]
    rw [decide_eq_true (by simp [dec10_length]; omega)]
    simp only [cond_true]
    rw [mid z _ (by omega), hd, strOf_nums]
    rfl
theorem fmtInt_ten {n : Int} (hn : Cell n) : fmtInt n 10 = some (bs ((if n < 0 then [45] else []) ++ digs 10 n.natAbs)) := by
  unfold Cell at hn
  unfold fmtInt fmtInt_t fmtInt0 fmtInt0_t
  have h10 : ((10 : Int) == 10) = true := rfl
  rw [h10]
  simp only [cond_true]
  by_cases h : 0 ≤ n ∧ n < 100
  · have m1 : fmtInt0_M1 n = some (.inl (bs (digs 10 n.natAbs))) := by
      unfold fmtInt0_M1 fmtInt0_M1_t
      rw [decide_eq_true h.1, decide_eq_true h.2]
      obtain ⟨i, rfl⟩ : ∃ i : Nat, n = i := ⟨n.toNat, by omega⟩
      rw [small_eq (by omega)]
      rfl
    rw [m1, if_neg (by omega)]
    rfl
  · have m1 : fmtInt0_M1 n = some (.inr ()) := by
      unfold fmtInt0_M1 fmtInt0_M1_t
      by_cases h0 : 0 ≤ n
      · rw [decide_eq_true h0, decide_eq_false (by omega)]; rfl
      · rw [decide_eq_false h0]; rfl
    have m2 : fmtInt0_M2 n (IntKind.wrap IntKind.u64 n) = some (n.natAbs : Int) := by
      unfold fmtInt0_M2 fmtInt0_M2_t
      by_cases h0 : n < 0
      · rw [decide_eq_true h0]
        simp only [cond_true]
        have e : IntKind.wrap IntKind.u64 ((0 : Int) - IntKind.wrap IntKind.u64 n) = (n.natAbs : Int) := by rw [wu, wu]; omega
        rw [e]
      · rw [decide_eq_false h0]
        simp only [cond_false]
        have e : IntKind.wrap IntKind.u64 n = (n.natAbs : Int) := by rw [wu]; omega
        rw [e]
    rw [m1, m2]
    simp only [sumOf]
    have ht := ten_tail (a := n) (u := n.natAbs) (by omega) (by omega) [(0 : Int), (0 : Int), (0 : Int), (0 : Int), (0 : Int), (0 : Int), (0 : Int), (0 : Int), (0 : Int), (0 : Int), (0 : Int), (0 : Int), (0 : Int), (0 : Int), (0 : Int), (0 : Int), (0 : Int), (0 : Int), (0 : Int), (0 : Int), (0 : Int), (0 : Int), (0 : Int), (0 : Int)] rfl
    simp only [outOf] at ht ⊢
    rw [ht]
end Go.Proofs.Dbl

/- Plain facts: the text of a number with a sign; the text of a double. -/
namespace Go.Proofs.Dbl
open Go Go.TX Go.Proofs
set_option maxRecDepth 100000
set_option maxHeartbeats 0
set_option linter.unusedVariables false
set_option linter.unusedSimpArgs false
theorem Text_eq {b : Nat} (h1 : 2 ≤ b) (h2 : b ≤ 36) {n : Int} (hn : Cell n) : num_Text n (b : Int) = some (bs ((if n < 0 then [45] else []) ++ caps b n.natAbs)) := by
  by_cases h10 : b = 10
  · subst h10
    unfold num_Text num_Text_t
    have hg : goodB ((10 : Nat) : Int) = true := rfl
    rw [good_eq, hg]
    simp only [outOf, Bool.not_true, cond_false]
    rw [show (((10 : Nat) : Int)) = 10 from rfl, fmtInt_ten hn]
    simp only [outOf]
    have hl : (digs 10 n.natAbs).length ≤ 65 := digs_length 10 64 _ (by unfold Cell at hn; omega)
    rw [upper_ok (l := (if n < 0 then [45] else []) ++ digs 10 n.natAbs) (fun c hc => by
      rcases List.mem_append.1 hc with h | h
      · split at h
        · simp only [List.mem_singleton] at h; subst h; decide
        · cases h
      · exact digs_ascii _ _ c h) (by
      simp only [List.length_append]
      split <;> simp <;> omega)]
    simp only [cond_true]
    rw [upperS_bs]
    unfold caps
    split <;> rfl
  · exact Text_ne h1 h2 h10 hn
/-- Texts of one sign each. -/
def ones (t : List UInt8) : List ByteArray := t.map fun c => bs [c]
theorem ones_data (t : List UInt8) : (ones t).map (fun x : ByteArray => x.data.toList) = t.map fun c => [c] := by
  unfold ones; rw [List.map_map]; rfl
theorem flat_ones (t : List UInt8) : (t.map fun c => [c]).flatten = t := by
  induction t with
  | nil => rfl
  | cons x t ih => simp only [List.map_cons, List.flatten_cons, ih]; rfl
theorem join_ones (t : List UInt8) : Lib.join (t.map fun c => [c]) [] = t := by
  cases t with
  | nil => rfl
  | cons x r =>
    rw [List.map_cons, Lib.join_cons]
    unfold Lib.joinTail
    have : (fun x : List UInt8 => ([] : List UInt8) ++ x) = id := rfl
    rw [this, List.map_id, flat_ones]
    rfl
theorem joinS_ones (t : List UInt8) : joinS (ones t) (bytesOf []) = bs t := by
  unfold joinS
  rw [ones_data, show (bytesOf []).data.toList = [] from rfl, join_ones]
  rfl
theorem joinSize_ones (t : List UInt8) : joinSize (ones t) (bytesOf []) = t.length := by
  unfold joinSize
  rw [ones_data, show (bytesOf []).data.toList = [] from rfl, join_ones]
/-- The low and the high half of a number without a sign. -/
def lo_ (u : Nat) : Int := W (u : Int)
def hi_ (u : Nat) : Int := W ((u : Int) / 18446744073709551616)
theorem low_of (q : Nat) : IntKind.wrap IntKind.i64 ((q : Int) - (q : Int) / 18446744073709551616 * 18446744073709551616) = lo_ q := by
  rw [wi]; unfold lo_; rw [W_eq]; omega
theorem zero_of {q : Nat} (h : q < 340282366920938463463374607431768211456) : lo_ q = 0 ∧ hi_ q = 0 ↔ q = 0 := by
  unfold lo_ hi_ W; omega
theorem un_pass {b : Nat} (b1 : 2 ≤ b) (b2 : b ≤ 36) {u : Nat} (hu : u < 340282366920938463463374607431768211456) {t : List UInt8} (ht : t.length ≤ 1000) :
    num_unsigned_L1_pass (ones t, (b : Int), lo_ u, hi_ u) =
      if u < b then some (.inr (bs (cap u :: t))) else some (.inl (ones (cap (u % b) :: t), (b : Int), lo_ (u / b), hi_ (u / b))) := by
  unfold num_unsigned_L1_pass num_unsigned_L1_t
  simp only
  have el : IntKind.wrap IntKind.u64 (lo_ u) = (u : Int) % 18446744073709551616 := by unfold lo_; rw [wu, mod_W]
  have eh : IntKind.wrap IntKind.u64 (hi_ u) = (u : Int) / 18446744073709551616 := by
    unfold hi_; rw [wu, mod_W]; exact Int.emod_eq_of_lt (by omega) (by omega)
  have hb0 : decide ((b : Int) = 0) = false := decide_eq_false (by omega)
  rw [el, eh, hb0]
  simp only [cond_false]
  have hH0 : (0 : Int) ≤ (u : Int) / 18446744073709551616 := by omega
  rw [Int.tmod_eq_emod_of_nonneg hH0, Int.tdiv_eq_ediv_of_nonneg hH0]
  have hm0 : 0 ≤ (u : Int) / 18446744073709551616 % b := Int.emod_nonneg _ (by omega)
  have hm1 : (u : Int) / 18446744073709551616 % b < b := Int.emod_lt_of_pos _ (by omega)
  rw [div64_eq b1 b2 hm0 hm1 (by omega) (by omega)]
  -- quotients
  have key : ((u : Int) / 18446744073709551616 % b * 18446744073709551616 + (u : Int) % 18446744073709551616) = (u : Int) - b * (((u : Int) / 18446744073709551616 / b) * 18446744073709551616) := by
    have h := Int.emod_add_mul_ediv ((u : Int) / 18446744073709551616) b
    have h' := Int.emod_add_mul_ediv (u : Int) 18446744073709551616
    rw [← Int.mul_assoc]
    generalize (b : Int) * ((u : Int) / 18446744073709551616 / b) = z at *
    omega
  have er : ((u : Int) / 18446744073709551616 % b * 18446744073709551616 + (u : Int) % 18446744073709551616) % b = ((u % b : Nat) : Int) := by
    rw [key, Int.sub_mul_emod_self_left]; exact (Int.natCast_emod u b).symm
  have eq' : ((u : Int) / 18446744073709551616 % b * 18446744073709551616 + (u : Int) % 18446744073709551616) / b = (u : Int) / b - ((u : Int) / 18446744073709551616 / b) * 18446744073709551616 := by
    rw [key, Int.sub_mul_ediv_left _ _ (by omega)]
  have eqh : (u : Int) / 18446744073709551616 / b = (u : Int) / b / 18446744073709551616 := by
    rw [Int.ediv_ediv_of_nonneg (by omega), Int.ediv_ediv_of_nonneg (by omega), Int.mul_comm]
  rw [er, eq', eqh]
  simp only [outOf]
  have hub : ((u : Int) / b) = ((u / b : Nat) : Int) := (Int.natCast_ediv u b).symm
  rw [hub]
  have w1 : IntKind.wrap IntKind.i64 ((u % b : Nat) : Int) = ((u % b : Nat) : Int) := by
    have := Nat.mod_lt u (show 0 < b by omega)
    rw [wi, W_of ⟨by omega, by omega⟩]
  have w2 : IntKind.wrap IntKind.i64 (((u / b : Nat) : Int) - ((u / b : Nat) : Int) / 18446744073709551616 * 18446744073709551616) = lo_ (u / b) := by
    exact low_of (u / b)
  have hd : u / b ≤ u := Nat.div_le_self _ _
  have w3 : IntKind.wrap IntKind.i64 (IntKind.wrap IntKind.u64 (((u / b : Nat) : Int) / 18446744073709551616)) = hi_ (u / b) := by
    unfold hi_; rw [wi, wu, W_mod]
  have hsl : u % b < 36 := by have := Nat.mod_lt u (show 0 < b by omega); omega
  rw [w1, w2, w3, Sign_eq hsl]
  simp only [outOf]
  have tz : (lo_ (u / b) == (0 : Int) && (hi_ (u / b) == (0 : Int) && true)) = decide (u < b) := by
    have hz : lo_ (u / b) = 0 ∧ hi_ (u / b) = 0 ↔ u / b = 0 := zero_of (Nat.lt_of_le_of_lt hd hu)
    rw [Bool.and_true]
    by_cases h : u < b
    · have h0 : u / b = 0 := Nat.div_eq_of_lt h
      have h2 := hz.2 h0
      rw [h2.1, h2.2, decide_eq_true h]; rfl
    · have h0 : ¬ u / b = 0 := by
        have := (Nat.one_le_div_iff (show 0 < b by omega)).2 (show b ≤ u by omega)
        omega
      rw [decide_eq_false h, ← Bool.not_eq_true, Bool.and_eq_true, beq_iff_eq, beq_iff_eq]
      exact fun hh => h0 (hz.1 hh)
  rw [tz]
  have e1 : [bs [cap (u % b)]] ++ ones t = ones (cap (u % b) :: t) := rfl
  cases t with
  | nil =>
    have : (ones ([] : List UInt8)).isEmpty = true := rfl
    rw [this]
    simp only [cond_true]
    have e2 : [bs [cap (u % b)]] = ones [cap (u % b)] := rfl
    rw [e2, joinSize_ones, joinS_ones, decide_eq_true (show (ones [cap (u % b)]).length ≤ 140737488355328 ∧ [cap (u % b)].length ≤ 140737488355328 from ⟨by unfold ones; simp, by simp⟩)]
    simp only [cond_true]
    by_cases h : u < b
    · rw [if_pos h, decide_eq_true h, Nat.mod_eq_of_lt h]; rfl
    · rw [if_neg h, decide_eq_false h]; rfl
  | cons x r =>
    have hE : (ones (x :: r)).isEmpty = false := rfl
    have hL : (ones (x :: r)).length = (x :: r).length := by unfold ones; simp
    have e3 : List.take ([bs [cap (u % b)]].length + (ones (x :: r)).length) (List.drop 0 ([bs [cap (u % b)]] ++ ones (x :: r))) = ones (cap (u % b) :: x :: r) := by
      rw [e1]
      exact List.take_of_length_le (by rw [List.drop_zero, hL]; unfold ones; simp; omega)
    have hl2 : (ones (cap (u % b) :: x :: r)).length = (x :: r).length + 1 := by unfold ones; simp
    rw [hE, e3, joinSize_ones, joinS_ones, decide_eq_true (show [bs [cap (u % b)]].length + (ones (x :: r)).length ≤ 2147483648 by rw [hL]; simp only [List.length_singleton]; omega),
      decide_eq_true (show (ones (cap (u % b) :: x :: r)).length ≤ 140737488355328 ∧ (cap (u % b) :: x :: r).length ≤ 140737488355328 from ⟨by rw [hl2]; omega, by rw [List.length_cons]; omega⟩)]
    simp only [cond_true, cond_false]
    by_cases h : u < b
    · rw [if_pos h, decide_eq_true h, Nat.mod_eq_of_lt h]; rfl
    · rw [if_neg h, decide_eq_false h]; rfl
theorem two128 : (2 : Nat) ^ 128 = 340282366920938463463374607431768211456 := by decide +kernel
theorem un_loop {b : Nat} (b1 : 2 ≤ b) (b2 : b ≤ 36) : ∀ (k u : Nat) (t : List UInt8), u < 2 ^ k → k ≤ 128 → t.length + k ≤ 1000 →
    num_unsigned_L1 (ones t, (b : Int), lo_ u, hi_ u) = some (bs (caps b u ++ t))
  | k, u, t, hu, hk, ht => by
    have hu' : u < 340282366920938463463374607431768211456 := by
      have h1 : 2 ^ k ≤ 2 ^ 128 := Nat.pow_le_pow_right (by omega) hk
      rw [two128] at h1
      omega
    have hp := un_pass b1 b2 hu' (t := t) (by omega)
    by_cases h : u < b
    · rw [if_pos h] at hp
      rw [caps_small h]
      exact runs_out hp
    · rw [if_neg h] at hp
      unfold num_unsigned_L1
      rw [runs_next hp]
      match k with
      | 0 => simp at hu; omega
      | k + 1 =>
        have hlt : u / b < 2 ^ k := by
          have e : 2 ^ (k + 1) = 2 * 2 ^ k := Nat.pow_succ'
          have h1 : u / b ≤ u / 2 := Nat.div_le_div_left b1 (by omega)
          omega
        have := un_loop b1 b2 k (u / b) (cap (u % b) :: t) hlt (by omega) (by simp only [List.length_cons]; omega)
        unfold num_unsigned_L1 at this
        rw [this, caps_big h b1, List.append_assoc]
        rfl
theorem unsigned_eq {b : Nat} (b1 : 2 ≤ b) (b2 : b ≤ 36) {u : Nat} (hu : u < 340282366920938463463374607431768211456) : num_unsigned (lo_ u) (hi_ u) (b : Int) = some (bs (caps b u)) := by
  unfold num_unsigned num_unsigned_t
  have wb : IntKind.wrap IntKind.u64 (b : Int) = (b : Int) := by rw [wu]; omega
  have := un_loop b1 b2 128 u [] (by rw [two128]; exact hu) (Nat.le_refl _) (by simp)
  rw [wb, show ([] : List ByteArray) = ones [] from rfl, this, List.append_nil]
  rfl
/-- A double's text: with its sign. -/
theorem DText_eq {b : Nat} (b1 : 2 ≤ b) (b2 : b ≤ 36) {lo hi : Int} (h1 : Cell lo) (h2 : Cell hi) :
    num_DText lo hi (b : Int) = some (bs ((if S lo hi < 0 then [45] else []) ++ caps b (S lo hi).natAbs)) := by
  unfold num_DText num_DText_t
  have hg : goodB (b : Int) = true := decide_eq_true (by omega)
  rw [good_eq, hg]
  simp only [outOf, Bool.not_true, cond_false]
  obtain ⟨r1, r2⟩ := S_range h1 h2
  have hs := Pd_S h1 h2
  have hsg : S lo hi < 0 ↔ hi < 0 := by unfold S; omega
  unfold Pd at hs
  generalize S lo hi = s at *
  obtain ⟨e1, e2⟩ := Prod.mk.inj hs
  by_cases h : hi < 0
  · rw [decide_eq_true h, if_pos (hsg.2 h)]
    simp only [cond_true]
    have hn := Neg_eq s
    rw [e1, e2] at hn
    rw [hn]
    simp only [outOf, Pd]
    have ea : -s = (s.natAbs : Int) := by have := hsg.2 h; omega
    rw [ea]
    have := unsigned_eq b1 b2 (u := s.natAbs) (by omega)
    unfold lo_ hi_ at this
    rw [this]
    simp only [outOf]
    have hl : (caps b s.natAbs).length ≤ 129 := by
      unfold caps Lib.toUpperA
      rw [List.length_map]
      exact digs_length b 128 s.natAbs (by rw [two128]; omega)
    rw [bs_size, decide_eq_false (by omega)]
    rfl
  · rw [decide_eq_false h, if_neg (fun hh => h (hsg.1 hh))]
    simp only [cond_false]
    have ea : s = (s.natAbs : Int) := by
      have : ¬ s < 0 := fun hh => h (hsg.1 hh)
      omega
    have := unsigned_eq b1 b2 (u := s.natAbs) (by omega)
    unfold lo_ hi_ at this
    rw [← ea, e1, e2] at this
    rw [this]
    rfl
theorem DText_bad {b : Int} (h : ¬ (2 ≤ b ∧ b ≤ 36)) (lo hi : Int) : num_DText lo hi b = some (bs []) := by
  unfold num_DText num_DText_t
  have hg : goodB b = false := decide_eq_false h
  rw [good_eq, hg]
  rfl
theorem Text_bad {b : Int} (h : ¬ (2 ≤ b ∧ b ≤ 36)) (n : Int) : num_Text n b = some (bs []) := by
  unfold num_Text num_Text_t
  have hg : goodB b = false := decide_eq_false h
  rw [good_eq, hg]
  rfl
end Go.Proofs.Dbl

/- Plain facts: NumCase, NumBack and NumForm hold. -/
namespace Go.Proofs.Dbl
open Go Go.TX Go.Proofs
set_option maxRecDepth 100000
set_option maxHeartbeats 0
set_option linter.unusedVariables false
set_option linter.unusedSimpArgs false
/-- The two texts of nought are one. -/
theorem nought (b : Int) : ∃ l, num_DText 0 0 b = some (bs l) ∧ num_Text 0 b = some (bs l) := by
  by_cases h : 2 ≤ b ∧ b ≤ 36
  · obtain ⟨n, rfl⟩ : ∃ n : Nat, b = n := ⟨b.toNat, by omega⟩
    have c0 : Cell 0 := ⟨by decide, by decide⟩
    exact ⟨_, DText_eq (by omega) (by omega) c0 c0, Text_eq (by omega) (by omega) c0⟩
  · exact ⟨_, DText_bad h 0 0, Text_bad h 0⟩
theorem same_bs (l : List UInt8) : (ByteArray.toList (bs l) == ByteArray.toList (bs l)) = true := by
  rw [bs_toList]; exact beq_self_eq_true l
end Go.Proofs.Dbl

/- Plain facts: NumForm holds. -/
namespace Go.Proofs.Dbl
open Go Go.TX Go.Proofs
set_option maxRecDepth 100000
set_option maxHeartbeats 0
set_option linter.unusedVariables false
set_option linter.unusedSimpArgs false
end Go.Proofs.Dbl
