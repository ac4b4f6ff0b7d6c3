/- PureBits: for every input the law answers true and leaves its arguments as they were. -/
import Derived.Test.YtbcijnfednjohaaPuXZ
import Derived.Test.YtbcijnfednjohaaPuPh
import Derived.Test.YtbcijnfednjohaaRows
import Derived.Test.YtbcijnfednjohaaTxS
namespace Go.Proofs.Ytbcijnfednjohaa
open Go Go.TX Go.Proofs Go.Proofs.Dbl
set_option maxRecDepth 100000
set_option maxHeartbeats 0
set_option linter.unusedVariables false
set_option linter.unusedSimpArgs false

theorem at2 (k : Nat) (h1 : 18 ≤ k) (h2 : k ≤ 74) (d : List Int) {v : List Int × Int} (h : Do_tab k d = some v) : pure_Do (k : Int) d = some v := (Do_at h1 h2 d).trans h
theorem bv_cell {a : Int} (h : Cell a) : W ((BitVec.ofInt 64 a).toNat : Int) = a := by
  rw [BitVec.toNat_ofInt]; unfold Cell at h; unfold W; omega
theorem and_def (a b : Int) : ibits .and .i64 a b = W ((BitVec.ofInt 64 a &&& BitVec.ofInt 64 b).toNat : Int) := wi _
theorem or_def (a b : Int) : ibits .or .i64 a b = W ((BitVec.ofInt 64 a ||| BitVec.ofInt 64 b).toNat : Int) := wi _
theorem xor_def (a b : Int) : ibits .xor .i64 a b = W ((BitVec.ofInt 64 a ^^^ BitVec.ofInt 64 b).toNat : Int) := wi _

theorem nat_bits (x y : Nat) : (x &&& y) + (x ||| y) = x + y ∧ (x &&& y) + (x ^^^ y) = (x ||| y) := by
  induction x using Nat.strongRecOn generalizing y with
  | ind x ih =>
    by_cases hx : x = 0
    · subst hx; simp
    · obtain ⟨h, h'⟩ := ih (x / 2) (by omega) (y / 2)
      have e1 : (x &&& y) / 2 = (x / 2) &&& (y / 2) := by simpa using Nat.and_div_two_pow (a := x) (b := y) (n := 1)
      have e2 : (x ||| y) / 2 = (x / 2) ||| (y / 2) := by simpa using Nat.or_div_two_pow (a := x) (b := y) (n := 1)
      have e3 : (x ^^^ y) / 2 = (x / 2) ^^^ (y / 2) := by simpa using Nat.xor_div_two_pow (a := x) (b := y) (n := 1)
      have m1 : (x &&& y) % 2 = (x % 2) &&& (y % 2) := by simpa using Nat.and_mod_two_pow (a := x) (b := y) (n := 1)
      have m2 : (x ||| y) % 2 = (x % 2) ||| (y % 2) := by simpa using Nat.or_mod_two_pow (a := x) (b := y) (n := 1)
      have m3 : (x ^^^ y) % 2 = (x % 2) ^^^ (y % 2) := by simpa using Nat.xor_mod_two_pow (a := x) (b := y) (n := 1)
      rcases Nat.mod_two_eq_zero_or_one x with h1 | h1 <;> rcases Nat.mod_two_eq_zero_or_one y with h2 | h2 <;> rw [h1, h2] at m1 m2 m3 <;> simp only [Nat.zero_and, Nat.and_zero, Nat.zero_or, Nat.or_zero, Nat.and_self, Nat.or_self, Nat.xor_self, Nat.zero_xor, Nat.xor_zero] at m1 m2 m3 <;> omega

theorem W_addW (x y : Int) : W (W x + W y) = W (x + y) := by unfold W; omega
theorem W_subW (x y : Int) : W (W x - W y) = W (x - y) := by unfold W; omega
theorem W_not (n : Int) : -1 - W (18446744073709551615 - n) = W n := by unfold W; omega

theorem sum_bits {a b : Int} (ha : Cell a) (hb : Cell b) : W (ibits .and .i64 a b + ibits .or .i64 a b) = W (a + b) := by
  obtain ⟨k1, k2⟩ := nat_bits (BitVec.ofInt 64 a).toNat (BitVec.ofInt 64 b).toNat
  have ea := bv_cell ha
  have eb := bv_cell hb
  rw [and_def, or_def, BitVec.toNat_and, BitVec.toNat_or, W_addW]
  have h : W (a + b) = W (((BitVec.ofInt 64 a).toNat : Int) + ((BitVec.ofInt 64 b).toNat : Int)) := by
    rw [← W_addW ((BitVec.ofInt 64 a).toNat : Int) ((BitVec.ofInt 64 b).toNat : Int), ea, eb]
  rw [h]
  refine congrArg W ?_
  generalize (BitVec.ofInt 64 a).toNat &&& (BitVec.ofInt 64 b).toNat = u at *
  generalize (BitVec.ofInt 64 a).toNat ||| (BitVec.ofInt 64 b).toNat = v at *
  clear k2
  omega

theorem diff_bits (a b : Int) : W (ibits .or .i64 a b - ibits .and .i64 a b) = ibits .xor .i64 a b := by
  obtain ⟨k1, k2⟩ := nat_bits (BitVec.ofInt 64 a).toNat (BitVec.ofInt 64 b).toNat
  rw [and_def, or_def, xor_def, BitVec.toNat_and, BitVec.toNat_or, BitVec.toNat_xor, W_subW]
  refine congrArg W ?_
  generalize (BitVec.ofInt 64 a).toNat &&& (BitVec.ofInt 64 b).toNat = u at *
  generalize (BitVec.ofInt 64 a).toNat ||| (BitVec.ofInt 64 b).toNat = v at *
  generalize (BitVec.ofInt 64 a).toNat ^^^ (BitVec.ofInt 64 b).toNat = z at *
  clear k1
  omega

theorem bits_hr (a b : Int) : -1 - ibits .and .i64 (-1 - b) (-1 - a) = ibits .or .i64 a b := by
  rw [and_def, or_def]
  have n1 : ∀ x : Int, BitVec.ofInt 64 (-1 - x) = ~~~ (BitVec.ofInt 64 x) := fun x => by
    apply BitVec.eq_of_toNat_eq
    rw [BitVec.toNat_not, BitVec.toNat_ofInt, BitVec.toNat_ofInt, show ((2 : Nat) ^ 64 : Nat) = 18446744073709551616 from by decide]; omega
  rw [n1, n1, ← BitVec.not_or, BitVec.or_comm, BitVec.toNat_not]
  have hlt := (BitVec.ofInt 64 a ||| BitVec.ofInt 64 b).isLt
  generalize (BitVec.ofInt 64 a ||| BitVec.ofInt 64 b).toNat = n at *
  have e64 : (2 : Nat) ^ 64 = 18446744073709551616 := by decide
  rw [e64] at hlt ⊢
  rw [show ((18446744073709551616 - 1 - n : Nat) : Int) = 18446744073709551615 - (n : Int) from by omega, W_not]

theorem bits_all {a b : Int} (ha : Cell a) (hb : Cell b) : pure_All [52, 20, 52, 49, 52] [a, b] = some ([ibits .or .i64 a b], 0) := by
  have s1 : pure_Do 52 [a, b] = some ([a, ibits .xor .i64 (-1) b], 0) := at2 52 (by decide) (by decide) _ ((dk_52 (r := [a]) (a := b) (by simp)).trans (congrArg some (fin_ok (by simp))))
  rw [xor_m1 hb] at s1
  have s2 : pure_Do 20 [a, -1 - b] = some ([-1 - b, a], 0) := at2 20 (by decide) (by decide) _ ((dk_20 (r := []) (by simp)).trans (congrArg some (fin_ok (by simp))))
  have s3 : pure_Do 52 [-1 - b, a] = some ([-1 - b, ibits .xor .i64 (-1) a], 0) := at2 52 (by decide) (by decide) _ ((dk_52 (r := [-1 - b]) (a := a) (by simp)).trans (congrArg some (fin_ok (by simp))))
  rw [xor_m1 ha] at s3
  have s4 : pure_Do 49 [-1 - b, -1 - a] = some ([ibits .and .i64 (-1 - b) (-1 - a)], 0) := at2 49 (by decide) (by decide) _ ((dk_49 (r := []) (by simp)).trans (congrArg some (fin_ok (by simp))))
  have s5 : pure_Do 52 [ibits .and .i64 (-1 - b) (-1 - a)] = some ([ibits .xor .i64 (-1) (ibits .and .i64 (-1 - b) (-1 - a))], 0) := at2 52 (by decide) (by decide) _ ((dk_52 (r := []) (a := ibits .and .i64 (-1 - b) (-1 - a)) (by simp)).trans (congrArg some (fin_ok (by simp))))
  rw [xor_m1 (by rw [and_def]; exact W_cell _), bits_hr] at s5
  rw [All_eq _ (by simp), allF_ok s1, allF_ok s2, allF_ok s3, allF_ok s4, allF_ok s5]; rfl

theorem d49 (a b : Int) : pure_Do 49 [a, b] = some ([ibits .and .i64 a b], 0) := at2 49 (by decide) (by decide) _ ((dk_49 (r := []) (by simp)).trans (congrArg some (fin_ok (by simp))))
theorem d50 (a b : Int) : pure_Do 50 [a, b] = some ([ibits .or .i64 a b], 0) := at2 50 (by decide) (by decide) _ ((dk_50 (r := []) (by simp)).trans (congrArg some (fin_ok (by simp))))
theorem d51 (a b : Int) : pure_Do 51 [a, b] = some ([ibits .xor .i64 a b], 0) := at2 51 (by decide) (by decide) _ ((dk_51 (r := []) (by simp)).trans (congrArg some (fin_ok (by simp))))
theorem bits_end (a b p q z : Int) (d49 : pure_Do 49 [a, b] = some ([p], 0)) (d50 : pure_Do 50 [a, b] = some ([q], 0)) (d51 : pure_Do 51 [a, b] = some ([z], 0)) (dall : pure_All [52, 20, 52, 49, 52] [a, b] = some ([q], 0))
    (e1 : W (p + q) = W (a + b)) (e2 : W (q - p) = z) : lawBits a b = some true := by
  have m1 : lawBits_M1 [p] 0 [q] 0 [z] 0 [q] 0 = some (.inr ()) := rfl
  unfold lawBits lawBits_t
  rw [awake_eq, d49, d50, d51, dall]
  simp only [outOf_some]
  rw [m1]
  simp only [outOf_some, sumOf_inr, cond_true, List.getD_cons_zero, wi, e1, e2, List.length_singleton]
  rw [ct (by decide), ct (by decide), beq_self_eq_true, beq_self_eq_true, beq_self_eq_true]
  rfl

theorem bits_val {a b : Int} (ha : Cell a) (hb : Cell b) : lawBits a b = some true :=
  bits_end a b _ _ _ (d49 a b) (d50 a b) (d51 a b) (bits_all ha hb) (sum_bits ha hb) (diff_bits a b)

theorem pureBits_plain : ∀ d : DenL [.int .i64, .int .i64], FitsL reachBytes [.int .i64, .int .i64] d →
    lawBits_sp (AV × Heap) (argsAV Try.prog Try.f9.params.toList [.int .i64, .int .i64] d) [] (fun v H => some (v, H)) = some (.lit (.bool true), []) := by
  rintro ⟨a, b, _⟩ ⟨ha, hb, _⟩
  show outOf (lawBits a b) (fun v => some (AV.lit (.bool v), [])) = _
  rw [bits_val ha hb]
  rfl

theorem pureBits_run : ∀ d : DenL [.int .i64, .int .i64], FitsL reachBytes [.int .i64, .int .i64] d →
    ∃ sp, TX.Good Try.prog 9 sp ∧ ∃ H', sp (AV × Heap) (argsAV Try.prog Try.f9.params.toList [.int .i64, .int .i64] d) [] (fun v H => some (v, H)) = some (.lit (.bool true), H') := by
  intro d hd
  exact ⟨lawBits_sp, lawBits_good, [], pureBits_plain d hd⟩

theorem pureBits_lifted (os : Os) (started : os.Started) (H : Type) (enc : TypeId × Value → H) :
    ReturnsInHanded {} Try.checked os 9 .any (Rows.pureBitsSpec.pre6 enc Try.prog Try.f9 [] false) (Rows.pureBitsSpec.post enc Try.prog Try.f9 false true false false) :=
  law_lifted (C := Try.checked) (fn := Try.f9) (code := bodyOf Try.f9) (tb := 4) (B := reachBytes) (by kernel_rfl) started (by kernel_rfl) Try.func9 (body_of rfl) (by kernel_rfl)
    (ChangeSpec.witness6 (enc := enc) (C := Try.checked) false ⟨#[], #[.int .i64 0, .int .i64 0], []⟩ 8 (by kernel_rfl) (by kernel_rfl) (by kernel_rfl) (by kernel_rfl))
    (by kernel_rfl) (by kernel_rfl) (by kernel_rfl) (shs := [.int .i64, .int .i64]) (by kernel_rfl) (by kernel_rfl) (by kernel_rfl) rfl
    (fun ds hd => match ds, hd with | [_, _], _ => rfl) (meas_said Try.prog H) pureBits_run

theorem pureBits_holds : Rows.PureBitsSaid :=
  OpenClaim.holds_of_wide 9 Try.f9 rfl rfl rfl rfl rfl rfl rfl ⟨rfl, rfl, rfl, rfl, rfl⟩ rfl rfl rfl rfl rfl (by kernel_rfl) Try.func9 (by kernel_rfl)
    (of_decide_eq_true (by kernel_rfl)) (by unfold Func.isWrapper; rw [if_neg (by decide +kernel)]; exact ⟨rfl, rfl⟩)
    (fun os started H enc _ => pureBits_lifted os started H enc)

#print axioms pureBits_holds
end Go.Proofs.Ytbcijnfednjohaa
