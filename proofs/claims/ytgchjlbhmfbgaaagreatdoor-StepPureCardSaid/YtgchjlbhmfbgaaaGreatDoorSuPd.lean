/- A thread of one operation on the stack alone. -/
import Derived.Test.YtgchjlbhmfbgaaaGreatDoorSuPb
import Derived.Test.YtgchjlbhmfbgaaaGreatDoorSuPc
import Derived.Test.YtgchjlbhmfbgaaaGreatDoorSuXJ
namespace Go.Proofs.Dbl
open Go Go.TX Go.Proofs
set_option maxRecDepth 100000
set_option maxHeartbeats 0
set_option linter.unusedVariables false
set_option linter.unusedSimpArgs false

theorem and_low (a : Int) : ∃ x : Int, ibits .and .i64 a 65535 = x ∧ 0 ≤ x ∧ x ≤ 65535 := by
  refine ⟨_, rfl, ?_⟩
  rw [ibits_def]
  show 0 ≤ IntKind.wrap .i64 (((BitVec.ofInt 64 a &&& BitVec.ofInt 64 65535).toNat : Nat) : Int) ∧ IntKind.wrap .i64 (((BitVec.ofInt 64 a &&& BitVec.ofInt 64 65535).toNat : Nat) : Int) ≤ 65535
  have h : (BitVec.ofInt 64 a &&& BitVec.ofInt 64 65535).toNat ≤ 65535 := by
    rw [BitVec.toNat_and]
    exact Nat.le_trans Nat.and_le_right (by decide)
  rw [wi, W_of ⟨by omega, by omega⟩]
  omega

theorem k_in (o : Int) : ∃ k : Nat, IntKind.wrap IntKind.i64 (18 + Int.tmod (ibits BinOp.and IntKind.i64 o 65535) 57) = (k : Int) ∧ 18 ≤ k ∧ k ≤ 74 := by
  obtain ⟨x, hx, h1, h2⟩ := and_low o
  rw [hx]
  have h3 : 0 ≤ Int.tmod x 57 ∧ Int.tmod x 57 < 57 := ⟨Int.tmod_nonneg _ h1, Int.tmod_lt_of_pos _ (by decide)⟩
  refine ⟨(18 + Int.tmod x 57).toNat, ?_, by omega, by omega⟩
  rw [wi, W_of ⟨by omega, by omega⟩]
  omega

theorem group_1 {k : Nat} (h1 : 18 ≤ k) (h2 : k ≤ 74) : op_Group (k : Int) = some 1 := by
  have := List.all_eq_true.1 group_in k (List.mem_range.2 (by omega))
  cases hg : op_Group (k : Int) with
  | none => rw [hg] at this; cases this
  | some g =>
    rw [hg] at this
    simp only [beq_iff_eq] at this
    have h3 : decide (18 ≤ k ∧ k ≤ 74) = true := decide_eq_true ⟨h1, h2⟩
    rw [h3] at this
    rw [beq_iff_eq.1 this]

theorem needs_1 {k : Nat} (h1 : 18 ≤ k) (h2 : k ≤ 74) : op_Needs (k : Int) = some (need k : Int) := by
  have := List.all_eq_true.1 need_in (k - 18) (List.mem_range.2 (by omega))
  rw [show k - 18 + 18 = k from by omega] at this
  cases hg : op_Needs (k : Int) with
  | none => rw [hg] at this; cases this
  | some g => rw [hg] at this; rw [beq_iff_eq.1 this]

theorem fetch1 (k : Int) : step_fetch [[(k, 0), (4, 0)]] [] 0 0 0 = some (k, 0, true) := rfl
theorem LibQ (th at_ k : Int) : step_Lib [[(k, 0), (4, 0)]] [] 0 th at_ = some false := by
  unfold step_Lib step_Lib_t
  by_cases h : th ≥ 0
  · rw [ct h, decide_eq_false (by omega)]
  · rw [cf h]

/-- Thrown where nothing is caught. -/
theorem Throw_out {D R : List Int} {th at_ : Int} (h : SaneP D R th at_ 0) (k : Int) (M : List Int) (o : ByteArray) (me ti : Int) (hi : List (Int × Int × Int × Int)) {e : Int} (he : e ≠ 0) :
    step_Throw [[(k, 0), (4, 0)]] [] 0 D R th at_ 0 M o me ti hi e = some (D, R, th, at_, 0, M, o, me, ti, hi, 2, e, 0) := by
  unfold step_Throw step_Throw_t
  rw [saneS h]
  simp only [outOf_some]
  rw [show (e == 0) = false by simpa using he]
  have : ret_Throw D R th at_ 0 e = some (D, R, th, at_, 0, false) := by
    unfold ret_Throw ret_Throw_t
    rw [saneT h]
    rfl
  rw [this]
  rfl

theorem step1 {D R : List Int} {k : Nat} (h1 : 18 ≤ k) (h2 : k ≤ 74) (hD : D.length ≤ 64) (hR : R.length ≤ 64) (M : List Int) (o : ByteArray) (me ti : Int) (hi : List (Int × Int × Int × Int)) {d : List Int} {e : Int} (hd : pure_Do k D = some (d, e)) :
    Step0 [[((k : Int), 0), (4, 0)]] [] 0 D R 0 0 0 M o me ti hi = some (d, R, 0, 1, 0, M, o, me, ti, hi, if e = 0 then 0 else 2, e, 0) := by
  have s0 : SaneP D R 0 0 0 := ⟨hD, hR, by unfold PlaceP; omega, .inl rfl⟩
  have s1 : SaneP D R 0 1 0 := ⟨hD, hR, by unfold PlaceP; omega, .inl rfl⟩
  have hk := kp_tab D k h1 h2 d e (by rw [← hd]; exact (Do_at h1 h2 D).symm)
  have w1 : IntKind.wrap IntKind.i64 ((0 : Int) + 1) = 1 := rfl
  unfold Step0 Step0_t
  rw [saneS s0]
  simp only [outOf_some]
  rw [fetch1]
  simp only [outOf_some, Bool.not_true, cond_false]
  rw [LibQ, group_1 h1 h2]
  simp only [outOf_some]
  rw [cf (by decide), needs_1 h1 h2]
  simp only [outOf_some]
  rw [w1]
  by_cases hn : D.length < need k
  · rw [ct (by omega), Throw_out s1 k M o me ti hi (by decide)]
    have := tab_un k h1 h2 hn
    rw [Do_at h1 h2, this] at hd
    cases hd
    rfl
  · rw [cf (by omega)]
    have e1 : one0 (k : Int) 0 D R 0 1 0 M o me ti hi [[((k : Int), 0), (4, 0)]] [] 0 me false 0 0 0 = some (e, d, R, 0, 1, 0, M, o, me, ti, hi, [[((k : Int), 0), (4, 0)]], [], 0, me, false, 0, 0, 0) := by
      unfold one0 one0_t
      rw [group_1 h1 h2, hd]
      rfl
    rw [e1]
    simp only [outOf_some]
    by_cases he : e = 0
    · subst he; rfl
    · rw [show (e != 0) = true by simpa using he, cond_true, Throw_out s1 k M o me ti hi he, if_neg he]
      have := hk he
      subst this
      rfl

theorem pure_eq {D R : List Int} (hc : AllC D) (M : List Int) (ou : ByteArray) (me ti : Int) (hi : List (Int × Int × Int × Int)) (o : Int) (a b c : Int) :
    lawPure D R a b c M ou me ti hi o = some true := by
  obtain ⟨bb, hb, hlen⟩ := Few0 D R 0 0 0 M ou me ti hi
  obtain ⟨k, hk, h1, h2⟩ := k_in o
  unfold lawPure lawPure_t
  rw [hb]
  simp only [outOf_some]
  cases bb with
  | false => rfl
  | true =>
    have hlen := hlen rfl
    simp only [Bool.not_true, cond_false, l14_task, l14_state, l14_was, l14_told]
    rw [Sane_eq]
    simp only [outOf_some]
    by_cases hs : SaneP D R 0 0 0
    · rw [decide_eq_true hs]
      obtain ⟨hD, hR, _⟩ := hs
      obtain ⟨d, e, hd, _, hdl⟩ := Do_fine (o := (k : Int)) hc hD
      rw [hk, step1 h1 h2 hD hR M ou me ti hi hd, hd]
      have same : r14_Same d R 0 1 0 M ou me ti hi d R 0 1 0 M ou me ti hi = some true := Same14 _ _ _ _ _ _ _ _ _ _ (by omega) (by omega) (by omega)
      simp only [outOf_some, Bool.not_true, cond_false]
      by_cases he : e = 0
      · subst he
        simp only [bne_self_eq_false, cond_false, if_true, beq_self_eq_true, Bool.and_true, cond_true]
        rw [same]
        rfl
      · rw [if_neg he, show (e != 0) = true by simpa using he]
        simp only [beq_self_eq_true, Bool.and_true, cond_true]
        rw [same]
        rfl
    · rw [decide_eq_false hs]; rfl
end Go.Proofs.Dbl
