/- Plain facts: what is told of others changes nothing. -/
import Derived.Test.YtnopacpjimllhaaHiPc
namespace Go.Proofs.Dbl
open Go Go.TX Go.Proofs
set_option maxRecDepth 100000
set_option maxHeartbeats 0
set_option linter.unusedVariables false
set_option linter.unusedSimpArgs false

/-! ### Holders, signals: event by event -/

abbrev HS : Type := Int × Int × Bool × List (Int × Bool)

def mx (a b : Int) : Int := if b > a then b else a
def mn (a b : Int) : Int := if b < a then b else a

def holdF (at_ : Int) (s : HS) (e : Ev) : HS :=
  if e.2.2.1 ≠ at_ then s
  else if (markF e.2.1).1 = 5 ∧ (markF e.2.1).2.1 = true then (mx s.1 ((mDel s.2.2.2 e.1).length : Int), s.2.1, s.2.2.1 && mGetD s.2.2.2 e.1 false, mDel s.2.2.2 e.1)
  else if (markF e.2.1).1 = 4 ∧ (markF e.2.1).2.1 = false then (mx s.1 ((mPut s.2.2.2 e.1 true).length : Int), W (s.2.1 + 1), s.2.2.1 && (e.2.2.2 == s.2.1), mPut s.2.2.2 e.1 true)
  else (mx s.1 (s.2.2.2.length : Int), s.2.1, s.2.2.1, s.2.2.2)

theorem hold_pass {at_ : Int} {h : List Ev} {i : Nat} (hi : i < h.length) (hh : h.length ≤ 1000) (s : HS) :
    hist_Holders_L1_pass (at_, s.1, s.2.1, s.2.2.1, h, (h.length : Int), (i : Int), s.2.2.2) =
      some (.inl (at_, (holdF at_ s h[i]).1, (holdF at_ s h[i]).2.1, (holdF at_ s h[i]).2.2.1, h, (h.length : Int), ((i + 1 : Nat) : Int), (holdF at_ s h[i]).2.2.2)) := by
  obtain ⟨mo, nx, gd, m⟩ := s
  have hg : h.getD i (0, 0, 0, 0) = h[i] := by simp [List.getD_eq_getElem?_getD, hi]
  unfold hist_Holders_L1_pass hist_Holders_L1_t
  simp only [Int.toNat_natCast, hg]
  rw [ct (by omega), ct (by omega), markOf_eq, wnat (by omega)]
  generalize h[i] = e
  obtain ⟨t, kd, a, v⟩ := e
  unfold holdF mx
  simp only [outOf_some, hist_Holders_M1, hist_Holders_M1_t, hist_Holders_M2, hist_Holders_M2_t, wi]
  generalize markF kd = mk
  obtain ⟨of, cl, dn, tl⟩ := mk
  simp only [bne, beq_dec]
  by_cases ha : a = at_
  · by_cases h5 : of = 5
    · subst h5
      cases cl <;> cases gd <;> simp [ha]
    · by_cases h4 : of = 4
      · subst h4
        cases cl <;> cases gd <;> simp [ha]
      · cases cl <;> cases gd <;> simp [ha, h5, h4]
  · simp [ha]

theorem hold_loop {at_ : Int} {h : List Ev} (hh : h.length ≤ 1000) : ∀ (k i : Nat) (s : HS), i + k = h.length →
    runs hist_Holders_L1_pass (at_, s.1, s.2.1, s.2.2.1, h, (h.length : Int), (i : Int), s.2.2.2) = some (((h.drop i).foldl (holdF at_) s).1, ((h.drop i).foldl (holdF at_) s).2.2.1)
  | 0, i, s, hk => by
    have : i = h.length := by omega
    subst this
    rw [List.drop_length]
    refine runs_out ?_
    unfold hist_Holders_L1_pass hist_Holders_L1_t
    simp only
    rw [cf (by omega)]
    rfl
  | k + 1, i, s, hk => by
    have hi : i < h.length := by omega
    rw [runs_next (hold_pass hi hh s), hold_loop hh k (i + 1) _ (by omega), List.drop_eq_getElem_cons hi]
    rfl

theorem Holders_eq {at_ : Int} {h : List Ev} (hh : h.length ≤ 1000) : hist_Holders h at_ = some ((h.foldl (holdF at_) (0, 0, true, [])).1, (h.foldl (holdF at_) (0, 0, true, [])).2.2.1) := by
  unfold hist_Holders hist_Holders_t hist_Holders_L1
  have := hold_loop (at_ := at_) hh h.length 0 (0, 0, true, []) (by omega)
  simp only [List.drop_zero] at this
  rw [show ((0 : Nat) : Int) = 0 from rfl] at this
  rw [this]; rfl

def sigF (at_ : Int) (s : Int × Int) (e : Ev) : Int × Int :=
  if e.2.2.1 ≠ at_ then s
  else if (markF e.2.1).1 = 7 ∧ (markF e.2.1).2.1 = true then (W (s.1 + 1), mn s.2 (W (s.1 + 1)))
  else if (markF e.2.1).1 = 6 ∧ (markF e.2.1).2.1 = false then (W (s.1 - 1), mn s.2 (W (s.1 - 1)))
  else (s.1, mn s.2 s.1)

theorem sig_pass {at_ : Int} {h : List Ev} {i : Nat} (hi : i < h.length) (hh : h.length ≤ 1000) (s : Int × Int) :
    hist_Signals_L1_pass (at_, s.1, s.2, h, (h.length : Int), (i : Int)) = some (.inl (at_, (sigF at_ s h[i]).1, (sigF at_ s h[i]).2, h, (h.length : Int), ((i + 1 : Nat) : Int))) := by
  obtain ⟨n, mo⟩ := s
  have hg : h.getD i (0, 0, 0, 0) = h[i] := by simp [List.getD_eq_getElem?_getD, hi]
  unfold hist_Signals_L1_pass hist_Signals_L1_t
  simp only [Int.toNat_natCast, hg]
  rw [ct (by omega), ct (by omega), markOf_eq, wnat (by omega)]
  generalize h[i] = e
  obtain ⟨t, kd, a, v⟩ := e
  unfold sigF mn
  simp only [outOf_some, hist_Signals_M1, hist_Signals_M1_t, wi]
  generalize markF kd = mk
  obtain ⟨of, cl, dn, tl⟩ := mk
  simp only [bne, beq_dec]
  by_cases ha : a = at_
  · by_cases h5 : of = 7
    · subst h5
      cases cl <;> simp [ha]
    · by_cases h4 : of = 6
      · subst h4
        cases cl <;> simp [ha]
      · cases cl <;> simp [ha, h5, h4]
  · simp [ha]

theorem sig_loop {at_ : Int} {h : List Ev} (hh : h.length ≤ 1000) : ∀ (k i : Nat) (s : Int × Int), i + k = h.length →
    runs hist_Signals_L1_pass (at_, s.1, s.2, h, (h.length : Int), (i : Int)) = some ((h.drop i).foldl (sigF at_) s).2
  | 0, i, s, hk => by
    have : i = h.length := by omega
    subst this
    rw [List.drop_length]
    refine runs_out ?_
    unfold hist_Signals_L1_pass hist_Signals_L1_t
    simp only
    rw [cf (by omega)]
    rfl
  | k + 1, i, s, hk => by
    have hi : i < h.length := by omega
    rw [runs_next (sig_pass hi hh s), sig_loop hh k (i + 1) _ (by omega), List.drop_eq_getElem_cons hi]
    rfl

theorem Signals_eq {at_ n : Int} {h : List Ev} (hh : h.length ≤ 1000) : hist_Signals h at_ n = some ((h.foldl (sigF at_) (n, n)).2, decide ((h.foldl (sigF at_) (n, n)).2 ≥ 0)) := by
  unfold hist_Signals hist_Signals_t hist_Signals_L1
  have := sig_loop (at_ := at_) hh h.length 0 (n, n) (by omega)
  simp only [List.drop_zero] at this
  rw [show ((0 : Nat) : Int) = 0 from rfl] at this
  rw [this]; rfl

/-! ### Events of other objects -/

def Others (at_ : Int) (l : List Ev) : Prop := ∀ e ∈ l, e.2.2.1 ≠ at_

theorem hold_others {at_ : Int} : ∀ (l : List Ev) (s : HS), Others at_ l → l.foldl (holdF at_) s = s
  | [], _, _ => rfl
  | e :: l, s, h => by
    show l.foldl (holdF at_) (holdF at_ s e) = s
    have : holdF at_ s e = s := by unfold holdF; rw [if_pos (h e (by simp))]
    rw [this]; exact hold_others l s fun x hx => h x (by simp [hx])

theorem sig_others {at_ : Int} : ∀ (l : List Ev) (s : Int × Int), Others at_ l → l.foldl (sigF at_) s = s
  | [], _, _ => rfl
  | e :: l, s, h => by
    show l.foldl (sigF at_) (sigF at_ s e) = s
    have : sigF at_ s e = s := by unfold sigF; rw [if_pos (h e (by simp))]
    rw [this]; exact sig_others l s fun x hx => h x (by simp [hx])

theorem run_append {at_ : Int} : ∀ (l m : List Ev) (i : Nat) (s : List OpT × Last), runO at_ i (l ++ m) s = (match runO at_ i l s with | none => none | some s' => runO at_ (i + l.length) m s')
  | [], m, i, s => rfl
  | e :: l, m, i, s => by
    show (match stepO at_ i e s with | none => none | some s' => runO at_ (i + 1) (l ++ m) s') = _
    simp only [runO]
    cases stepO at_ i e s with
    | none => rfl
    | some s' =>
      simp only
      rw [run_append l m (i + 1) s', show i + 1 + l.length = i + (e :: l).length from by simp; omega]

theorem run_others {at_ : Int} : ∀ (l : List Ev) (i : Nat) (s : List OpT × Last), Others at_ l → ∃ last, runO at_ i l s = some (s.1, last)
  | [], _, s, _ => ⟨s.2, rfl⟩
  | e :: l, i, s, h => by
    have he := h e (by simp)
    have : ∃ last, stepO at_ i e s = some (s.1, last) := by
      unfold stepO
      rw [if_neg he, if_neg he]
      split
      · exact ⟨_, rfl⟩
      · exact ⟨s.2, rfl⟩
    obtain ⟨l1, h1⟩ := this
    obtain ⟨l2, h2⟩ := run_others l (i + 1) (s.1, l1) fun x hx => h x (by simp [hx])
    exact ⟨l2, by simp only [runO, h1]; exact h2⟩

theorem Ops_others {at_ : Int} {h l : List Ev} (hh : h.length + l.length ≤ 1000) (ho : Others at_ l) : hist_Ops (h ++ l) at_ = hist_Ops h at_ := by
  rw [Ops_eq (by simp; omega), Ops_eq (by omega), run_append]
  cases runO at_ 0 h ([], []) with
  | none => rfl
  | some s =>
    obtain ⟨l1, h1⟩ := run_others l (0 + h.length) s ho
    simp only [h1]

theorem Ops_len {at_ : Int} {h : List Ev} (hh : h.length ≤ 1000) : ∃ l ok, hist_Ops h at_ = some (l, ok) ∧ l.length ≤ h.length := by
  rw [Ops_eq hh]
  cases hr : runO at_ 0 h ([], []) with
  | none => exact ⟨_, _, rfl, by simp⟩
  | some s => exact ⟨_, _, rfl, (Inv.run h.length 0 ([], []) s (by omega) (inv_first h at_) (by rw [List.drop_zero]; exact hr)).len⟩

theorem xor8_ne (a : Int) : ibits .xor .i64 a 8 ≠ a := by
  intro h
  have h1 : ibits .xor .i64 a 8 = W (((BitVec.ofInt 64 a ^^^ BitVec.ofInt 64 8).toNat : Nat) : Int) := by
    show IntKind.wrap .i64 _ = _; rw [wi]; rfl
  rw [h1] at h
  have hlt := (BitVec.ofInt 64 a ^^^ BitVec.ofInt 64 8).isLt
  have h2 : (BitVec.ofInt 64 a).toNat = (BitVec.ofInt 64 a ^^^ BitVec.ofInt 64 8).toNat := by
    rw [BitVec.toNat_ofInt]
    generalize (BitVec.ofInt 64 a ^^^ BitVec.ofInt 64 8).toNat = n at *
    subst h
    unfold W
    omega
  have h3 := BitVec.eq_of_toNat_eq h2
  have h4 : BitVec.ofInt 64 a ^^^ BitVec.ofInt 64 a = BitVec.ofInt 64 a ^^^ (BitVec.ofInt 64 a ^^^ BitVec.ofInt 64 8) := congrArg (BitVec.ofInt 64 a ^^^ ·) h3
  rw [← BitVec.xor_assoc, BitVec.xor_self, BitVec.zero_xor] at h4
  exact absurd h4 (by decide)

/-! ### The law's own loops -/

theorem parts_eq {l : List OpT} (hl : l.length ≤ 1000) : law_parts l = some l := by
  have h1 : law_parts_L1 (l, 0, 0, []) = some (l.length, l) := by
    have := runs_all (pass := law_parts_L1_pass) (x := (l.length, l)) (fun k => (l, k, (k : Int), l.take k)) l.length (fun k hk => ?_) ?_
    · unfold law_parts_L1; simpa using this
    · unfold law_parts_L1_pass law_parts_L1_t
      have hg : l.getD k (0, 0, 0, 0, false, 0, 0) = l[k] := by simp [List.getD_eq_getElem?_getD, hk]
      simp only [Int.toNat_natCast, hg, List.length_singleton, List.drop_zero, List.take_take, Nat.min_self]
      rw [ct (by omega), ct (by omega), ct (by omega), wnat (by omega), List.take_succ_eq_append_getElem hk]
    · unfold law_parts_L1_pass law_parts_L1_t
      simp only
      rw [cf (by omega), List.take_length]
  unfold law_parts law_parts_t
  rw [h1]
  simp only [outOf_some, List.drop_zero, List.take_length]

theorem Same_eq {l : List OpT} (hl : l.length ≤ 1000) : ref_Same l l = some true := by
  have h1 : ref_Same_L1 (l, l, 0) = some (.inr ()) := by
    refine runs_all (fun k => (l, l, (k : Int))) l.length (fun k hk => ?_) ?_
    · unfold ref_Same_L1_pass ref_Same_L1_t
      simp only [Int.toNat_natCast, beq_self_eq_true, Bool.and_self, Bool.not_true, cond_false]
      rw [ct (by omega), ct (by omega), ct (by omega), wnat (by omega)]
    · unfold ref_Same_L1_pass ref_Same_L1_t
      simp only
      rw [cf (by omega)]
  unfold ref_Same ref_Same_t
  rw [bne_self_eq_false, h1]; rfl

def other (at_ task : Int) (e : Ev) : Ev := (task, e.2.1, (if e.2.2.1 = at_ then ibits .xor .i64 at_ 8 else e.2.2.1), e.2.2.2)

theorem other_ne (at_ task : Int) (e : Ev) : (other at_ task e).2.2.1 ≠ at_ := by
  unfold other
  simp only
  split
  · exact xor8_ne at_
  · assumption

theorem apart_L1 {h o : List Ev} {at_ task : Int} {up : Bool} (h1 : h.length ≤ 200) (h2 : o.length ≤ 100) :
    lawApart_L1 (h, at_, o, task, up, h.length, 0, h) = some (h, at_, up, h.length + o.length, h ++ o.map (other at_ task)) := by
  have := runs_all (pass := lawApart_L1_pass) (x := (h, at_, up, h.length + o.length, h ++ o.map (other at_ task)))
    (fun k => (h, at_, o, task, up, h.length + k, (k : Int), h ++ (o.take k).map (other at_ task))) o.length (fun k hk => ?_) ?_
  · unfold lawApart_L1; simpa using this
  · unfold lawApart_L1_pass lawApart_L1_t
    have hg : o.getD k (0, 0, 0, 0) = o[k] := by simp [List.getD_eq_getElem?_getD, hk]
    have ht : List.take (h.length + k) (h ++ (o.take k).map (other at_ task)) = h ++ (o.take k).map (other at_ task) := List.take_of_length_le (by simp; omega)
    simp only [Int.toNat_natCast, hg, List.length_singleton, List.drop_zero, ht]
    rw [ct (by omega), ct (by omega), wnat (by omega), List.take_succ_eq_append_getElem hk, List.map_append]
    simp only [List.map_cons, List.map_nil, ← List.append_assoc]
    by_cases ha : o[k].2.2.1 = at_
    · rw [show (o[k].2.2.1 == at_) = true from beq_iff_eq.2 ha, cond_true, ct (by omega)]
      unfold other
      rw [if_pos ha]; rfl
    · rw [beq_eq_false_iff_ne.2 ha, cond_false, ct (by omega)]
      unfold other
      rw [if_neg ha]; rfl
  · unfold lawApart_L1_pass lawApart_L1_t
    simp only
    rw [cf (by omega), List.take_length]

theorem apart_val {h o : List Ev} {at_ task : Int} : lawApart h at_ o task = some true := by
  unfold lawApart lawApart_t lawApart_M1 lawApart_M1_t
  rw [law_awake_eq]
  simp only [outOf_some]
  by_cases h1 : (h.length : Int) > 200
  · rw [ct h1]; rfl
  · rw [cf h1]
    by_cases h2 : (o.length : Int) > 100
    · rw [ct h2]; rfl
    · rw [cf h2]
      simp only [outOf_some, sumOf_inr]
      have ho : Others at_ (o.map (other at_ task)) := fun e he => by
        obtain ⟨x, _, rfl⟩ := List.mem_map.1 he
        exact other_ne at_ task x
      rw [ct (by omega), apart_L1 (by omega) (by omega)]
      have ht : List.take (h.length + o.length) (h ++ o.map (other at_ task)) = h ++ o.map (other at_ task) := List.take_of_length_le (by simp)
      simp only [outOf_some, List.drop_zero, ht]
      rw [Ops_others (by simp; omega) ho]
      obtain ⟨l, ok, e1, e2⟩ := Ops_len (at_ := at_) (h := h) (by omega)
      rw [e1, Holders_eq (by omega), Holders_eq (by simp; omega), Signals_eq (by omega), Signals_eq (by simp; omega), List.foldl_append, List.foldl_append, hold_others _ _ ho, sig_others _ _ ho]
      simp only [outOf_some]
      rw [parts_eq (by omega)]
      simp only [outOf_some]
      rw [Same_eq (by omega)]
      simp only [outOf_some, beq_self_eq_true, cond_true]

end Go.Proofs.Dbl
