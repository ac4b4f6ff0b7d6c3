/- Plain facts about rows of operations. -/
import Derived.Test.YtbcijnfednjohaaPuXF
import Derived.Test.YtbcijnfednjohaaPuPg
namespace Go.Proofs.Dbl
open Go Go.TX Go.Proofs
set_option maxRecDepth 100000
set_option maxHeartbeats 0
set_option linter.unusedVariables false
set_option linter.unusedSimpArgs false

theorem Do_at {k : Nat} (h1 : 18 ≤ k) (h2 : k ≤ 74) (d : List Int) : pure_Do (k : Int) d = Do_tab k d := by
  unfold pure_Do
  rw [if_pos (by omega), Int.toNat_natCast]

/-- What a row of operations comes to. -/
noncomputable def allF : List Int → List Int → Option (List Int × Int)
  | [], d => some (d, 0)
  | o :: l, d => outOf (pure_Do o d) fun x => cond (x.2 != (0 : Int)) (some x) (allF l x.1)

theorem All_eq {l : List Int} (d : List Int) (hl : l.length ≤ 1000) : pure_All l d = allF l d := by
  have key : ∀ k, k ≤ l.length → ∀ d, outOf (runs pure_All_L1_pass (d, l, (l.length : Int), ((l.length - k : Nat) : Int))) (fun v => sumOf v (fun x => some (x.1, x.2)) (fun x => some (x, (0 : Int)))) = allF (l.drop (l.length - k)) d := by
    intro k
    induction k with
    | zero =>
      intro _ d
      rw [Nat.sub_zero, List.drop_length]
      have : pure_All_L1_pass (d, l, (l.length : Int), (l.length : Int)) = some (.inr (.inr d)) := by
        unfold pure_All_L1_pass pure_All_L1_t
        simp only
        rw [cf (by omega)]
      rw [runs_out this]
      rfl
    | succ k ih =>
      intro hk d
      have hi : l.length - (k + 1) < l.length := by omega
      have e1 : l.length - k = (l.length - (k + 1)) + 1 := by omega
      rw [e1] at ih
      generalize l.length - (k + 1) = i at *
      have hg : l.getD i 0 = l[i] := by simp [List.getD_eq_getElem?_getD, hi]
      have hp : pure_All_L1_pass (d, l, (l.length : Int), (i : Int)) = outOf (pure_Do l[i] d) fun x => cond (x.2 != (0 : Int)) (some (.inr (.inl (x.1, x.2)))) (some (.inl (x.1, l, (l.length : Int), ((i + 1 : Nat) : Int)))) := by
        unfold pure_All_L1_pass pure_All_L1_t
        simp only [wi, Int.toNat_natCast]
        rw [ct (by omega), ct (by omega), hg, show W ((i : Int) + 1) = ((i + 1 : Nat) : Int) from by unfold W; omega]
      rw [List.drop_eq_getElem_cons hi]
      show _ = outOf (pure_Do l[i] d) fun x => cond (x.2 != (0 : Int)) (some x) (allF (l.drop (i + 1)) x.1)
      cases hd : pure_Do l[i] d with
      | none =>
        rw [hd] at hp
        rw [runs_stuck hp]; rfl
      | some x =>
        rw [hd] at hp
        simp only [outOf_some] at hp ⊢
        by_cases hx : x.2 = 0
        · rw [show (x.2 != 0) = false from by simp [hx]] at hp ⊢
          rw [runs_next hp]
          exact ih (by omega) x.1
        · rw [show (x.2 != 0) = true from by simpa using hx] at hp ⊢
          rw [runs_out hp]
          rfl
  have := key l.length (Nat.le_refl _) d
  rw [Nat.sub_self, List.drop_zero] at this
  unfold pure_All pure_All_t
  exact this

theorem Same_refl (a : List Int) (h : a.length ≤ 100000) : ref_Same a a = some true := by
  unfold ref_Same ref_Same_t
  rw [bne_self_eq_false]
  have : ref_Same_L1 (a, a, 0) = some (.inr ()) := by
    refine runs_all (fun i => (a, a, (i : Int))) a.length (fun i hi => ?_) ?_
    · unfold ref_Same_L1_pass ref_Same_L1_t
      simp only [wi, Int.toNat_natCast]
      rw [ct (by omega), ct (by omega), ct (by omega), bne_self_eq_false, show W ((i : Int) + 1) = ((i + 1 : Nat) : Int) from by unfold W; omega]
      rfl
    · unfold ref_Same_L1_pass ref_Same_L1_t
      simp only
      rw [cf (by omega)]
  rw [this]
  rfl

/-- Two cells, divided and rounded down. -/
def F (a b : Int) : Int × Int × Int := if b = 0 then (0, 0, -10) else if b = -1 ∧ a = -9223372036854775808 then (0, 0, -11) else (a.fdiv b, a.fmod b, 0)

theorem dk_38 {r : List Int} {a b : Int} (h : r.length + 2 ≤ 64) (ha : Cell a) (hb : Cell b) : Do_38 (r ++ [a, b]) = some (fin r [a, b] [(F a b).2.1, (F a b).1] (F a b).2.2) := by
  unfold Do_38 Do_38_t
  rw [cf (by simp; omega), cf (by simp; omega), popX2 h]
  simp only [outOf_some]
  rw [ct (by simp), ct (by simp)]
  rw [show cell_Floor (List.getD [a, b] 0 0) (List.getD [a, b] 1 0) = some (F a b) from cFloor_eq ha hb]
  exact tailE (by omega) (by simp) (.inl (by simp; omega))

theorem dk_64 {r : List Int} {a b : Int} (h : r.length + 2 ≤ 64) (ha : Cell a) (hb : Cell b) : Do_64 (r ++ [a, b]) = some (fin r [a, b] [(Pd (a * b)).1, (Pd (a * b)).2] 0) := by
  unfold Do_64 Do_64_t
  rw [cf (by simp; omega), cf (by simp; omega), popX2 h]
  simp only [outOf_some]
  rw [ct (by simp), ct (by simp)]
  rw [show dbl_Mul (List.getD [a, b] 0 0) (List.getD [a, b] 1 0) = some (Pd (a * b)) from Mul_eq ha hb]
  exact tail0 (by omega) (by simp)

def Sy (lo hi n : Int) : Int × Int × Int := if n = 0 then (0, 0, -10) else if Cell ((S lo hi).tdiv n) then ((S lo hi).tmod n, (S lo hi).tdiv n, 0) else (0, 0, -11)

theorem dk_67 {r : List Int} {a b c : Int} (h : r.length + 3 ≤ 64) (ha : Cell a) (hb : Cell b) (hc : Cell c) : Do_67 (r ++ [a, b, c]) = some (fin r [a, b, c] [(Sy a b c).1, (Sy a b c).2.1] (Sy a b c).2.2) := by
  unfold Do_67 Do_67_t
  rw [cf (by simp; omega), cf (by simp; omega), popX3 h]
  simp only [outOf_some]
  rw [ct (by simp), ct (by simp), ct (by simp)]
  rw [show dbl_Symm (List.getD [a, b, c] 0 0) (List.getD [a, b, c] 1 0) (List.getD [a, b, c] 2 0) = some (Sy a b c) from Symm_eq ha hb hc]
  exact tailE (by omega) (by simp) (.inl (by simp; omega))

theorem do_12 (d : List Int) : pure_Do 12 d = some (d, -21) := by
  have h : op_Group 12 = some 0 := by kernel_rfl
  unfold pure_Do
  rw [if_neg (by omega), h]; rfl

theorem awake_eq : law_awake = some true := by
  have h : pure_Do 38 [5, 7, 2] = some ([5, 1, 3], 0) := by
    refine (Do_at (k := 38) (by decide) (by decide) _).trans ?_
    have := dk_38 (r := [5]) (a := 7) (b := 2) (by simp) (by unfold Cell; omega) (by unfold Cell; omega)
    exact this.trans (by decide)
  unfold law_awake law_awake_t
  rw [h]
  rfl

/-- An operation that throws nothing, with room. -/
theorem fin_ok {r x y : List Int} (h : r.length + y.length ≤ 64) : fin r x y 0 = (r ++ y, 0) := by
  unfold fin; rw [if_neg (by simp), if_neg (by omega)]

theorem allF_ok {o : Int} {l d d' : List Int} (h : pure_Do o d = some (d', 0)) : allF (o :: l) d = allF l d' := by
  show outOf (pure_Do o d) _ = _
  rw [h]; rfl
theorem allF_no {o : Int} {l d d' : List Int} {e : Int} (h : pure_Do o d = some (d', e)) (he : e ≠ 0) : allF (o :: l) d = some (d', e) := by
  show outOf (pure_Do o d) _ = _
  rw [h]
  show cond (e != 0) _ _ = _
  rw [show (e != 0) = true from by simpa using he]; rfl

end Go.Proofs.Dbl
