/- Plain facts: operations of one task do not overlap. -/
import Derived.Test.YtnopacpjimllhaaHiPb
import Derived.Test.YtnopacpjimllhaaHiXB
namespace Go.Proofs.Dbl
open Go Go.TX Go.Proofs
set_option maxRecDepth 100000
set_option maxHeartbeats 0
set_option linter.unusedVariables false
set_option linter.unusedSimpArgs false

abbrev d0 : OpT := (0, 0, 0, 0, false, 0, 0)

structure OpGood (h : List Ev) (at_ : Int) (i : Nat) (x : OpT) : Prop where
  fr0 : 0 ≤ x.2.2.2.2.2.1
  fr1 : x.2.2.2.2.2.1 < (i : Int)
  to1 : x.2.2.2.2.2.2 < (i : Int)
  to0 : 0 ≤ x.2.2.2.2.2.2 → x.2.2.2.2.2.1 < x.2.2.2.2.2.2
  k0 : 0 ≤ x.2.1
  k7 : x.2.1 ≤ 7
  open_ : x.2.2.2.2.2.2 < 0 → x.2.2.2.2.1 = false ∧ x.2.2.2.1 = 0
  at_eq : (h.getD x.2.2.2.2.2.1.toNat (0, 0, 0, 0)).2.2.1 = at_
  task : (h.getD x.2.2.2.2.2.1.toNat (0, 0, 0, 0)).1 = x.1

structure Inv (h : List Ev) (at_ : Int) (i : Nat) (s : List OpT × Last) : Prop where
  lastOk : LastOk s
  len : s.1.length ≤ i
  good : ∀ j, j < s.1.length → OpGood h at_ i (s.1.getD j d0)
  inc : ∀ j k, j < k → k < s.1.length → (s.1.getD j d0).2.2.2.2.2.1 < (s.1.getD k d0).2.2.2.2.2.1
  apart : ∀ j k, j < k → k < s.1.length → (s.1.getD j d0).1 = (s.1.getD k d0).1 → (s.1.getD j d0).2.2.2.2.2.2 ≤ (s.1.getD k d0).2.2.2.2.2.1
  last : ∀ t, mHas s.2 t = true → (mGetD s.2 t (0, 0)).1 ≠ -1 → (s.1.getD (mGetD s.2 t (0, 0)).1.toNat d0).1 = t ∧ ∀ k, (mGetD s.2 t (0, 0)).1.toNat < k → k < s.1.length → (s.1.getD k d0).1 ≠ t

theorem OpGood.mono {h : List Ev} {at_ : Int} {i : Nat} {x : OpT} (g : OpGood h at_ i x) : OpGood h at_ (i + 1) x :=
  ⟨g.fr0, by have := g.fr1; omega, by have := g.to1; omega, g.to0, g.k0, g.k7, g.open_, g.at_eq, g.task⟩

theorem getD_append_lt (l : List OpT) (x : OpT) {j : Nat} (h : j < l.length) : (l ++ [x]).getD j d0 = l.getD j d0 := by
  simp only [List.getD_eq_getElem?_getD, List.getElem?_append_left h]
theorem getD_append_eq (l : List OpT) (x : OpT) : (l ++ [x]).getD l.length d0 = x := by
  simp [List.getD_eq_getElem?_getD]
theorem getD_set_ne (l : List OpT) (x : OpT) {j o : Nat} (h : o ≠ j) : (l.set o x).getD j d0 = l.getD j d0 := by
  simp only [List.getD_eq_getElem?_getD, List.getElem?_set_ne h]

/-- With another last call of a task. -/
theorem Inv.put {h : List Ev} {at_ : Int} {i : Nat} {ops : List OpT} {last : Last} (v : Inv h at_ i (ops, last)) (t a : Int) : Inv h at_ (i + 1) (ops, mPut last t (-1, a)) where
  lastOk := lastOk_put v.lastOk (Nat.le_refl _) (.inl rfl)
  len := by have := v.len; simp only at this ⊢; omega
  good := fun j hj => (v.good j hj).mono
  inc := v.inc
  apart := v.apart
  last := fun u hu hne => by
    have hl := v.last u
    simp only [mHas_put, mGetD_put] at hu hne hl ⊢
    cases hut : u == t with
    | true => rw [hut] at hne; exact absurd rfl hne
    | false =>
      rw [hut, Bool.false_or] at hu
      rw [hut] at hne
      exact hl hu hne

theorem Inv.step {h : List Ev} {at_ : Int} {i : Nat} {s s' : List OpT × Last} (v : Inv h at_ i s) (hi : i < h.length) (hs : stepO at_ i h[i] s = some s') : Inv h at_ (i + 1) s' := by
  have hg : h.getD i (0, 0, 0, 0) = h[i] := by simp [List.getD_eq_getElem?_getD, hi]
  unfold stepO at hs
  obtain ⟨ops, last⟩ := s
  generalize h[i] = e at *
  simp only at hs
  split at hs
  · rename_i hc
    split at hs
    · rename_i ha
      cases hs
      obtain ⟨k0, k7⟩ := mark_call hc
      have hlen := v.len
      simp only at hlen
      have hnew : ∀ j, j < (ops ++ [((e.1, (markF e.2.1).1, e.2.2.2, 0, false, (i : Int), -1) : OpT)]).length → j ≠ ops.length → j < ops.length := fun j hj hne => by simp at hj; omega
      refine ⟨lastOk_put v.lastOk (by simp) (.inr ?_), by simp only [List.length_append, List.length_singleton]; omega, fun j hj => ?_, fun j k hjk hk => ?_, fun j k hjk hk ht => ?_, fun u hu hne => ?_⟩
      · simp only [List.length_append, List.length_singleton]; omega
      · by_cases hjn : j = ops.length
        · subst hjn
          rw [getD_append_eq]
          exact ⟨by simp only; omega, by simp only; omega, by simp only; omega, fun h => by simp only at h; omega, k0, k7, fun _ => ⟨rfl, rfl⟩, by simp only [Int.toNat_natCast, hg]; exact ha, by simp only [Int.toNat_natCast, hg]⟩
        · rw [getD_append_lt _ _ (hnew j hj hjn)]
          exact (v.good j (hnew j hj hjn)).mono
      · by_cases hkn : k = ops.length
        · subst hkn
          rw [getD_append_eq, getD_append_lt _ _ hjk]
          exact (v.good j hjk).fr1
        · have hk' := hnew k hk hkn
          rw [getD_append_lt _ _ hk', getD_append_lt _ _ (by omega)]
          exact v.inc j k hjk hk'
      · by_cases hkn : k = ops.length
        · subst hkn
          rw [getD_append_eq, getD_append_lt _ _ hjk]
          have := (v.good j hjk).to1
          simp only at this ⊢; omega
        · have hk' := hnew k hk hkn
          rw [getD_append_lt _ _ hk', getD_append_lt _ _ (by omega)] at ht ⊢
          exact v.apart j k hjk hk' ht
      · have hl := v.last u
        have hlo := v.lastOk u
        simp only [mHas_put, mGetD_put] at hu hne hl hlo ⊢
        cases hut : u == e.1 with
        | true =>
          simp only [cond_true, Int.toNat_natCast]
          rw [getD_append_eq]
          exact ⟨(beq_iff_eq.1 hut).symm, fun k h1 h2 => by simp at h2; omega⟩
        | false =>
          rw [hut, Bool.false_or] at hu
          rw [hut] at hne
          simp only [cond_false] at hne ⊢
          obtain ⟨g1, g2⟩ := hl hu hne
          have ho : (mGetD last u (0, 0)).1.toNat < ops.length := by
            rcases hlo hu with h | h
            · exact absurd h hne
            · omega
          refine ⟨by rw [getD_append_lt _ _ ho]; exact g1, fun k h1 h2 => ?_⟩
          by_cases hkn : k = ops.length
          · subst hkn
            rw [getD_append_eq]
            exact fun h => (beq_eq_false_iff_ne.1 hut) h.symm
          · rw [getD_append_lt _ _ (hnew k h2 hkn)]
            exact g2 k h1 (hnew k h2 hkn)
    · cases hs
      exact v.put _ _
  · split at hs
    · rename_i ha
      split at hs
      · cases hs
      · split at hs
        · cases hs
        · rename_i hhas
          split at hs
          · cases hs
          · rename_i hno
            split at hs
            · cases hs
            · rename_i hkind
              cases hs
              have hhas : mHas last e.1 = true := by simpa using hhas
              have hl := v.last e.1 hhas hno
              have hlo := v.lastOk e.1 hhas
              simp only at hl hlo
              have ho : (mGetD last e.1 (0, 0)).1.toNat < ops.length := by
                rcases hlo with h | h
                · exact absurd h hno
                · omega
              obtain ⟨g1, g2⟩ := hl
              have hgood := v.good _ ho
              simp only at hgood
              have hlen := v.len
              simp only at hlen
              generalize (mGetD last e.1 (0, 0)).1.toNat = o at *
              generalize hok : ((markF e.2.1).2.2.1 || (decide ((markF e.2.1).1 ≠ 1) && decide ((markF e.2.1).1 ≠ 3) && decide (e.2.2.2 ≠ 0))) = ok
              generalize hres : (if (markF e.2.1).2.2.2 = true then e.2.2.2 else (ops.getD o d0).2.2.2.1) = res
              have hx : ∀ j, (ops.set o (ret (ops.getD o d0) i ok res)).getD j d0 = if j = o then ret (ops.getD o d0) i ok res else ops.getD j d0 := fun j => by
                by_cases hj : j = o
                · subst hj; rw [if_pos rfl, getD_set_self _ _ _ _ ho]
                · rw [if_neg hj, getD_set_ne _ _ (Ne.symm hj)]
              have e1 : ∀ j, ((ops.set o (ret (ops.getD o d0) i ok res)).getD j d0).1 = (ops.getD j d0).1 := fun j => by
                rw [hx]
                split
                · rename_i h; subst h; rfl
                · rfl
              have e2 : ∀ j, ((ops.set o (ret (ops.getD o d0) i ok res)).getD j d0).2.2.2.2.2.1 = (ops.getD j d0).2.2.2.2.2.1 := fun j => by
                rw [hx]
                split
                · rename_i h; subst h; rfl
                · rfl
              refine ⟨lastOk_put v.lastOk (by simp) (.inl rfl), by simp only [List.length_set]; omega, fun j hj => ?_, fun j k hjk hk => ?_, fun j k hjk hk ht => ?_, fun u hu hne => ?_⟩
              · rw [List.length_set] at hj
                simp only [hx]
                split
                · rename_i hjo
                  have g := hgood
                  exact ⟨g.fr0, by have := g.fr1; show (ops.getD o d0).2.2.2.2.2.1 < _; omega, by show (i : Int) < _; omega, fun _ => g.fr1, g.k0, g.k7, fun h => by have h : (i : Int) < 0 := h; omega, g.at_eq, g.task⟩
                · exact (v.good j hj).mono
              · rw [List.length_set] at hk
                rw [e2, e2]
                exact v.inc j k hjk hk
              · rw [List.length_set] at hk
                rw [e1, e1] at ht
                rw [e2]
                rw [hx]
                split
                · rename_i hjo
                  subst hjo
                  exact absurd (ht.symm.trans g1) (g2 k hjk hk)
                · exact v.apart j k hjk hk ht
              · have hl := v.last u
                simp only [mHas_put, mGetD_put] at hu hne hl ⊢
                cases hut : u == e.1 with
                | true => rw [hut] at hne; exact absurd rfl hne
                | false =>
                  rw [hut, Bool.false_or] at hu
                  rw [hut] at hne
                  simp only [cond_false] at hne ⊢
                  obtain ⟨f1, f2⟩ := hl hu hne
                  refine ⟨by rw [e1]; exact f1, fun k h1 h2 => ?_⟩
                  rw [List.length_set] at h2
                  rw [e1]; exact f2 k h1 h2
    · cases hs
      exact ⟨v.lastOk, by have := v.len; omega, fun j hj => (v.good j hj).mono, v.inc, v.apart, v.last⟩

theorem Inv.run {h : List Ev} {at_ : Int} : ∀ (k i : Nat) (s s' : List OpT × Last), i + k = h.length → Inv h at_ i s → runO at_ i (h.drop i) s = some s' → Inv h at_ h.length s'
  | 0, i, s, s', hk, v, hr => by
    have : i = h.length := by omega
    subst this
    rw [List.drop_length] at hr
    cases hr
    exact v
  | k + 1, i, s, s', hk, v, hr => by
    have hi : i < h.length := by omega
    rw [List.drop_eq_getElem_cons hi] at hr
    simp only [runO] at hr
    cases hs : stepO at_ i h[i] s with
    | none => rw [hs] at hr; cases hr
    | some s1 =>
      rw [hs] at hr
      exact Inv.run k (i + 1) s1 s' (by omega) (v.step hi hs) hr

theorem inv_first (h : List Ev) (at_ : Int) : Inv h at_ 0 ([], []) :=
  { lastOk := (fun t ht => by cases ht), len := Nat.le_refl _, good := (fun j hj => by simp at hj), inc := (fun j k _ hk => by simp at hk), apart := (fun j k _ hk => by simp at hk), last := (fun t ht => by cases ht) }

/-! ### The law's own loops -/

theorem M1_eq {h : List Ev} {at_ : Int} {l : List OpT} {j : Nat} (g : OpGood h at_ h.length (l.getD j d0)) (hj : j < l.length) (hl : l.length ≤ 1000)
    (hp : 0 < j → (l.getD (j - 1) d0).2.2.2.2.2.1 < (l.getD j d0).2.2.2.2.2.1) :
    lawOrder_M1 h at_ l (j : Int) (l.getD j d0).1 (l.getD j d0).2.1 (l.getD j d0).2.2.2.1 (l.getD j d0).2.2.2.2.1 (l.getD j d0).2.2.2.2.2.1 (l.getD j d0).2.2.2.2.2.2 = some (.inr ()) := by
  obtain ⟨a1, a2, a3, a4, a5, a6, a7, a8, a9⟩ := g
  generalize l.getD j d0 = x at *
  obtain ⟨t, kd, arg, res, ok, fr, to⟩ := x
  simp only at *
  unfold lawOrder_M1 lawOrder_M1_t
  rw [a8, a9, bne_self_eq_false, bne_self_eq_false]
  have tail : (cond (decide ((0 : Int) ≤ fr ∧ fr < (↑(List.length h) : Int))) (cond false (some (Sum.inl false)) (cond (decide ((0 : Int) ≤ fr ∧ fr < (↑(List.length h) : Int))) (cond false (some (Sum.inl false)) (cond (decide (kd < (0 : Int))) (some (Sum.inl false)) (cond (decide (kd > (7 : Int))) (some (Sum.inl false)) (cond (decide (to < (0 : Int))) (cond ok (some (Sum.inl false)) (cond (res != (0 : Int)) (some (Sum.inl false)) (some (Sum.inr ())))) (some (Sum.inr ())))))) none)) none) = (some (Sum.inr ()) : Option (Bool ⊕ Unit)) := by
    rw [ct (by omega)]
    simp only [cond_false]
    rw [ct (by omega), cf (by omega), cf (by omega)]
    by_cases h0 : to < 0
    · rw [ct h0]
      obtain ⟨b1, b2⟩ := a7 h0
      rw [b1, b2]; rfl
    · rw [cf h0]
  have mid : (cond (decide ((j : Int) > (0 : Int))) (cond (decide ((0 : Int) ≤ IntKind.wrap IntKind.i64 ((j : Int) - (1 : Int)) ∧ IntKind.wrap IntKind.i64 ((j : Int) - (1 : Int)) < (↑(List.length l) : Int))) (cond (decide (fr ≤ Prod.fst (Prod.snd (Prod.snd (Prod.snd (Prod.snd (Prod.snd (List.getD l (Int.toNat (IntKind.wrap IntKind.i64 ((j : Int) - (1 : Int)))) ((0 : Int), (0 : Int), (0 : Int), (0 : Int), false, (0 : Int), (0 : Int)))))))))) (some (Sum.inl false)) (some (Sum.inr ()))) none) (some (Sum.inr ()))) = (some (Sum.inr ()) : Option (Bool ⊕ Unit)) := by
    by_cases h0 : (j : Int) > 0
    · have e : IntKind.wrap .i64 ((j : Int) - 1) = ((j - 1 : Nat) : Int) := by rw [wi]; unfold W; omega
      rw [ct h0, e, ct (by omega), Int.toNat_natCast]
      have := hp (by omega)
      rw [cf (by simp only [d0] at this; omega)]
    · rw [cf h0]
  rw [cf (by omega), cf (by omega), cf (by omega)]
  simp only [tail]
  by_cases h0 : to ≥ 0
  · rw [ct h0]
    have := a4 h0
    rw [cf (by omega)]
    exact mid
  · rw [cf h0]
    exact mid

theorem L2_eq {h : List Ev} {at_ : Int} {up : Bool} {l : List OpT} {j : Nat} {x : OpT} (hj : j < l.length) (hl : l.length ≤ 1000) (ha : ∀ k, k < j → (l.getD k d0).1 = x.1 → (l.getD k d0).2.2.2.2.2.2 ≤ x.2.2.2.2.2.1) :
    lawOrder_L2 (h, at_, up, l, (j : Int), 0, x.1, x.2.1, x.2.2.1, x.2.2.2.1, x.2.2.2.2.1, x.2.2.2.2.2.1, x.2.2.2.2.2.2) = some (.inr (h, at_, up, l, (j : Int))) := by
  refine runs_all (fun k => (h, at_, up, l, (j : Int), (k : Int), x.1, x.2.1, x.2.2.1, x.2.2.2.1, x.2.2.2.2.1, x.2.2.2.2.2.1, x.2.2.2.2.2.2)) j (fun k hk => ?_) ?_
  · unfold lawOrder_L2_pass lawOrder_L2_t
    simp only [Int.toNat_natCast]
    rw [ct (by omega), ct (by omega), wnat (by omega)]
    by_cases ht : (l.getD k d0).1 = x.1
    · rw [show ((l.getD k (0, 0, 0, 0, false, 0, 0)).1 == x.1) = true from beq_iff_eq.2 ht]
      have := ha k hk ht
      simp only [cond_true]
      rw [ct (by omega), cf (by simp only [d0] at this; omega)]
    · rw [show ((l.getD k (0, 0, 0, 0, false, 0, 0)).1 == x.1) = false from beq_eq_false_iff_ne.2 ht]
      rfl
  · unfold lawOrder_L2_pass lawOrder_L2_t
    simp only
    rw [cf (by omega)]

theorem L1_eq {h : List Ev} {at_ : Int} {up : Bool} {s : List OpT × Last} (v : Inv h at_ h.length s) (hh : h.length ≤ 1000) : lawOrder_L1 (h, at_, up, s.1, 0) = some (.inr up) := by
  have hlen := v.len
  refine runs_all (fun j => (h, at_, up, s.1, (j : Int))) s.1.length (fun j hj => ?_) ?_
  · unfold lawOrder_L1_pass lawOrder_L1_t
    simp only [Int.toNat_natCast]
    rw [ct (by omega), ct (by omega)]
    have m1 := M1_eq (v.good j hj) hj (by omega) fun h0 => v.inc (j - 1) j (by omega) hj
    simp only [d0] at m1
    rw [m1]
    simp only [outOf_some, sumOf_inr]
    have l2 := L2_eq (h := h) (at_ := at_) (up := up) hj (by omega) fun k hk ht => v.apart k j hk hj ht
    simp only [d0] at l2
    rw [l2]
    simp only [outOf_some, sumOf_inr]
    rw [wnat (by omega)]
  · unfold lawOrder_L1_pass lawOrder_L1_t
    simp only
    rw [cf (by omega)]

theorem law_awake_eq : law_awake = some true := by
  unfold law_awake law_awake_t
  rw [awake_ops]
  rfl

theorem order_val {h : List Ev} {at_ : Int} : lawOrder h at_ = some true := by
  unfold lawOrder lawOrder_t
  rw [law_awake_eq]
  simp only [outOf_some]
  by_cases h1 : (h.length : Int) > 300
  · rw [ct h1]
  · rw [cf h1, Ops_eq (by omega)]
    cases hr : runO at_ 0 h ([], []) with
    | none => rfl
    | some s =>
      simp only [outOf_some, Bool.not_true, cond_false]
      have v := Inv.run h.length 0 ([], []) s (by omega) (inv_first h at_) (by rw [List.drop_zero]; exact hr)
      rw [L1_eq v (by omega)]
      rfl

end Go.Proofs.Dbl
