/- Plain facts on maps as rows, marks of events, and the operations that a history tells of. -/
import Derived.Test.YtnopacpjimllhaaHiXA
namespace Go.Proofs.Dbl
open Go Go.TX Go.Proofs
set_option maxRecDepth 100000
set_option maxHeartbeats 0
set_option linter.unusedVariables false
set_option linter.unusedSimpArgs false

theorem ct {A : Type} {p : Prop} [Decidable p] (h : p) {x y : A} : cond (decide p) x y = x := by rw [decide_eq_true h]; rfl
theorem cf {A : Type} {p : Prop} [Decidable p] (h : ¬ p) {x y : A} : cond (decide p) x y = y := by rw [decide_eq_false h]; rfl
def W (x : Int) : Int := (x + 9223372036854775808) % 18446744073709551616 - 9223372036854775808
theorem wi (n : Int) : IntKind.wrap .i64 n = W n := by
  rw [show IntKind.i64.wrap n = _ from IntKind.wrap_i64 n]; unfold W; (try split) <;> omega
theorem wnat {n : Nat} (h : n ≤ 1000000) : IntKind.wrap .i64 ((n : Int) + 1) = ((n + 1 : Nat) : Int) := by
  rw [wi]; unfold W; omega

theorem beq_dec (a b : Int) : (a == b) = decide (a = b) := by
  by_cases h : a = b
  · rw [decide_eq_true h, beq_iff_eq.2 h]
  · rw [decide_eq_false h, beq_eq_false_iff_ne.2 h]

/-! ### Maps -/

theorem mHas_put {V : Type} (l : List (Int × V)) (k : Int) (v : V) (j : Int) : mHas (mPut l k v) j = (j == k || mHas l j) := by
  induction l with
  | nil => show cond (j == k) true false = _; cases j == k <;> rfl
  | cons e l ih =>
    show mHas (cond (k == e.1) ((k, v) :: l) (e :: mPut l k v)) j = _
    cases hk : k == e.1 with
    | true =>
      have : k = e.1 := by simpa using hk
      subst this
      show cond (j == e.1) true (mHas l j) = (j == e.1 || cond (j == e.1) true (mHas l j))
      cases j == e.1 <;> rfl
    | false =>
      show cond (j == e.1) true (mHas (mPut l k v) j) = (j == k || cond (j == e.1) true (mHas l j))
      rw [ih]
      cases j == e.1 <;> cases j == k <;> rfl

theorem mGetD_put {V : Type} (l : List (Int × V)) (k : Int) (v : V) (j : Int) (d : V) : mGetD (mPut l k v) j d = cond (j == k) v (mGetD l j d) := by
  induction l with
  | nil => show cond (j == k) v d = _; rfl
  | cons e l ih =>
    show mGetD (cond (k == e.1) ((k, v) :: l) (e :: mPut l k v)) j d = cond (j == k) v (cond (j == e.1) e.2 (mGetD l j d))
    cases hk : k == e.1 with
    | true =>
      have : k = e.1 := by simpa using hk
      subst this
      show cond (j == e.1) v (mGetD l j d) = _
      cases j == e.1 <;> rfl
    | false =>
      show cond (j == e.1) e.2 (mGetD (mPut l k v) j d) = _
      rw [ih]
      cases h1 : j == e.1 with
      | true =>
        have : j = e.1 := by simpa using h1
        subst this
        have h2 : (e.1 == k) = false := by
          rw [beq_eq_false_iff_ne] at hk ⊢; exact fun h => hk h.symm
        rw [h2]; rfl
      | false => cases j == k <;> rfl

/-! ### Marks -/

abbrev Ev : Type := Int × Int × Int × Int
abbrev OpT : Type := Int × Int × Int × Int × Bool × Int × Int
abbrev Last : Type := List (Int × (Int × Int))

def marksT : List (Int × Bool × Bool × Bool) := [(-1, false, false, false), (0, true, false, false), (0, false, false, false), (1, true, false, false), (1, false, true, true), (1, false, false, false), (2, true, false, false), (2, false, false, false), (3, true, false, false), (3, false, true, true), (3, false, false, false), (4, true, false, false), (4, false, true, true), (5, true, false, false), (5, false, true, false), (6, true, false, false), (6, false, true, false), (7, true, false, false), (7, false, true, false)]
def markF (k : Int) : Int × Bool × Bool × Bool := if k < 0 ∨ 19 ≤ k then (-1, false, false, false) else marksT.getD k.toNat (0, false, false, false)

theorem markOf_eq (t k a v : Int) : hist_markOf t k a v = some (markF k) := by
  unfold hist_markOf hist_markOf_t markF
  by_cases h1 : k < 0
  · rw [ct h1, if_pos (.inl h1)]
  · rw [cf h1]
    by_cases h2 : k ≥ 19
    · rw [ct h2, if_pos (.inr h2)]
    · rw [cf h2, if_neg (by omega), ct (by omega), Nat.zero_add]
      rfl

theorem mark_call {k : Int} (h : (markF k).2.1 = true) : 0 ≤ (markF k).1 ∧ (markF k).1 ≤ 7 := by
  unfold markF at h ⊢
  split at h
  · cases h
  · rename_i hr
    rw [if_neg hr]
    have key : (List.range 19).all (fun n => !(marksT.getD n (0, false, false, false)).2.1 || (decide (0 ≤ (marksT.getD n (0, false, false, false)).1) && decide ((marksT.getD n (0, false, false, false)).1 ≤ 7))) = true := by decide
    have := List.all_eq_true.1 key k.toNat (List.mem_range.2 (by omega))
    rw [h] at this
    simpa using this

/-! ### What a history tells -/

/-- An operation that has returned. -/
def ret (x : OpT) (i : Int) (ok : Bool) (res : Int) : OpT := (x.1, x.2.1, x.2.2.1, res, ok, x.2.2.2.2.2.1, i)

def stepO (at_ i : Int) (e : Ev) (s : List OpT × Last) : Option (List OpT × Last) :=
  if (markF e.2.1).2.1 = true then
    if e.2.2.1 = at_ then some (s.1 ++ [(e.1, (markF e.2.1).1, e.2.2.2, 0, false, i, -1)], mPut s.2 e.1 ((s.1.length : Int), e.2.2.1))
    else some (s.1, mPut s.2 e.1 (-1, e.2.2.1))
  else if e.2.2.1 = at_ then
    if (markF e.2.1).1 = -1 then none
    else if mHas s.2 e.1 = false then none
    else if (mGetD s.2 e.1 (0, 0)).1 = -1 then none
    else if (s.1.getD (mGetD s.2 e.1 (0, 0)).1.toNat (0, 0, 0, 0, false, 0, 0)).2.1 ≠ (markF e.2.1).1 then none
    else some (s.1.set (mGetD s.2 e.1 (0, 0)).1.toNat (ret (s.1.getD (mGetD s.2 e.1 (0, 0)).1.toNat (0, 0, 0, 0, false, 0, 0)) i
        ((markF e.2.1).2.2.1 || (decide ((markF e.2.1).1 ≠ 1) && decide ((markF e.2.1).1 ≠ 3) && decide (e.2.2.2 ≠ 0)))
        (if (markF e.2.1).2.2.2 = true then e.2.2.2 else (s.1.getD (mGetD s.2 e.1 (0, 0)).1.toNat (0, 0, 0, 0, false, 0, 0)).2.2.2.1)), mPut s.2 e.1 (-1, -1))
  else some s

def runO (at_ : Int) : Nat → List Ev → List OpT × Last → Option (List OpT × Last)
  | _, [], s => some s
  | i, e :: l, s =>
    match stepO at_ i e s with
    | none => none
    | some s' => runO at_ (i + 1) l s'

/-- Where the last calls lie. -/
def LastOk (s : List OpT × Last) : Prop := ∀ t, mHas s.2 t = true → (mGetD s.2 t (0, 0)).1 = -1 ∨ (0 ≤ (mGetD s.2 t (0, 0)).1 ∧ (mGetD s.2 t (0, 0)).1 < (s.1.length : Int))

theorem call_eq {i : Int} {e : Ev} {m : Int × Bool × Bool × Bool} {at_ : Int} {ops : List OpT} {last : Last} (h : ops.length ≤ 1000) :
    hist_call i e.1 e.2.1 e.2.2.1 e.2.2.2 m.1 m.2.1 m.2.2.1 m.2.2.2 at_ ops.length ops last =
      some (if e.2.2.1 = at_ then .inl (at_, ops.length + 1, mPut last e.1 ((ops.length : Int), e.2.2.1), ops ++ [(e.1, m.1, e.2.2.2, 0, false, i, -1)]) else .inr (at_, ops.length, ops, mPut last e.1 (-1, e.2.2.1))) := by
  unfold hist_call hist_call_t
  by_cases ha : e.2.2.1 = at_
  · rw [if_pos ha, show (e.2.2.1 == at_) = true from by simp [ha]]
    simp only [cond_true, List.length_singleton, List.drop_zero, List.take_length]
    rw [ct (by omega)]
  · rw [if_neg ha, beq_eq_false_iff_ne.2 ha]
    rfl

abbrev opSh : Sh := .pair (.int .i64) (.pair (.int .i64) (.pair (.int .i64) (.pair (.int .i64) (.pair .bool (.pair (.int .i64) (.int .i64))))))

theorem row6 (l : List OpT) (j : Nat) (v : Int) : rowI opSh l j 6 .i64 v = l.set j ((l.getD j opSh.dflt).1, (l.getD j opSh.dflt).2.1, (l.getD j opSh.dflt).2.2.1, (l.getD j opSh.dflt).2.2.2.1, (l.getD j opSh.dflt).2.2.2.2.1, (l.getD j opSh.dflt).2.2.2.2.2.1, v) := rfl
theorem row4 (l : List OpT) (j : Nat) (v : Bool) : rowB opSh l j 4 v = l.set j ((l.getD j opSh.dflt).1, (l.getD j opSh.dflt).2.1, (l.getD j opSh.dflt).2.2.1, (l.getD j opSh.dflt).2.2.2.1, v, (l.getD j opSh.dflt).2.2.2.2.2.1, (l.getD j opSh.dflt).2.2.2.2.2.2) := rfl
theorem row3 (l : List OpT) (j : Nat) (v : Int) : rowI opSh l j 3 .i64 v = l.set j ((l.getD j opSh.dflt).1, (l.getD j opSh.dflt).2.1, (l.getD j opSh.dflt).2.2.1, v, (l.getD j opSh.dflt).2.2.2.2.1, (l.getD j opSh.dflt).2.2.2.2.2.1, (l.getD j opSh.dflt).2.2.2.2.2.2) := rfl

theorem getD_set_self {A : Type} (l : List A) (j : Nat) (v d : A) (h : j < l.length) : (l.set j v).getD j d = v := by
  rw [List.getD_eq_getElem?_getD, List.getElem?_set_self h]; rfl

theorem rows_no (l : List OpT) (j : Nat) (i : Int) (ok : Bool) (h : j < l.length) : rowB opSh (rowI opSh l j 6 .i64 i) j 4 ok = l.set j (ret (l.getD j opSh.dflt) i ok (l.getD j opSh.dflt).2.2.2.1) := by
  rw [row4, row6, getD_set_self _ _ _ _ h, List.set_set]; rfl
theorem rows_yes (l : List OpT) (j : Nat) (i : Int) (ok : Bool) (v : Int) (h : j < l.length) : rowI opSh (rowB opSh (rowI opSh l j 6 .i64 i) j 4 ok) j 3 .i64 v = l.set j (ret (l.getD j opSh.dflt) i ok v) := by
  rw [rows_no _ _ _ _ h, row3, getD_set_self _ _ _ _ h, List.set_set]; rfl

theorem back_eq {i : Int} {e : Ev} {m : Int × Bool × Bool × Bool} {at_ : Int} {ops : List OpT} {last : Last} (hl : LastOk (ops, last)) :
    hist_back i e.1 e.2.1 e.2.2.1 e.2.2.2 m.1 m.2.1 m.2.2.1 m.2.2.2 at_ ops.length ops last =
      some (if m.1 = -1 then (false, at_, ops.length, ops, last) else if mHas last e.1 = false then (false, at_, ops.length, ops, last) else if (mGetD last e.1 (0, 0)).1 = -1 then (false, at_, ops.length, ops, last)
        else if (ops.getD (mGetD last e.1 (0, 0)).1.toNat (0, 0, 0, 0, false, 0, 0)).2.1 ≠ m.1 then (false, at_, ops.length, ops, last)
        else (true, at_, ops.length, ops.set (mGetD last e.1 (0, 0)).1.toNat (ret (ops.getD (mGetD last e.1 (0, 0)).1.toNat (0, 0, 0, 0, false, 0, 0)) i
          (m.2.2.1 || (decide (m.1 ≠ 1) && decide (m.1 ≠ 3) && decide (e.2.2.2 ≠ 0))) (if m.2.2.2 = true then e.2.2.2 else (ops.getD (mGetD last e.1 (0, 0)).1.toNat (0, 0, 0, 0, false, 0, 0)).2.2.2.1)), mPut last e.1 (-1, -1))) := by
  have hle := hl e.1
  simp only at hle
  unfold hist_back hist_back_t hist_back_M1 hist_back_M1_t
  generalize mHas last e.1 = has at *
  generalize (mGetD last e.1 (0, 0)).1 = o at *
  by_cases h1 : m.1 = -1
  · rw [if_pos h1, show (m.1 == -1) = true from by simp [h1]]; rfl
  rw [if_neg h1, beq_eq_false_iff_ne.2 h1]
  cases has with
  | false => rfl
  | true =>
    have hle := hle rfl
    rw [if_neg (by simp)]
    by_cases h2 : o = -1
    · rw [if_pos h2, show (o == -1) = true from by simp [h2]]; rfl
    rw [if_neg h2, beq_eq_false_iff_ne.2 h2, Nat.zero_add]
    have ho : 0 ≤ o ∧ o < (ops.length : Int) := by omega
    simp only [cond_false, Bool.not_true]
    rw [ct ho]
    by_cases h3 : (ops.getD o.toNat (0, 0, 0, 0, false, 0, 0)).2.1 = m.1
    · rw [if_neg (fun h => h h3), show ((ops.getD o.toNat (0, 0, 0, 0, false, 0, 0)).2.1 != m.1) = false from by rw [h3]; exact bne_self_eq_false _]
      simp only [cond_false, outOf_some, sumOf_inr]
      rw [ct ho]
      have hj : o.toNat < ops.length := by omega
      have e4 : opSh.dflt = ((0, 0, 0, 0, false, 0, 0) : OpT) := rfl
      have hy := fun ok v => rows_yes ops o.toNat i ok v hj
      have hn := fun ok => rows_no ops o.toNat i ok hj
      rw [e4] at hy hn
      simp only [hy]
      simp only [hn]
      generalize ops.getD o.toNat (0, 0, 0, 0, false, 0, 0) = x at *
      obtain ⟨mo, mc, md, mt⟩ := m
      simp only at *
      simp only [bne, beq_dec]
      cases md <;> cases mt <;> by_cases g1 : mo = 1 <;> by_cases g3 : mo = 3 <;> simp [g1, g3]
    · rw [if_pos h3, show ((ops.getD o.toNat (0, 0, 0, 0, false, 0, 0)).2.1 != m.1) = true from bne_iff_ne.2 h3]
      rfl

end Go.Proofs.Dbl
