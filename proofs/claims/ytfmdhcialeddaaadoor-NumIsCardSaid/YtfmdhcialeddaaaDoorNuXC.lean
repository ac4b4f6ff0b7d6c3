import Derived.Test.YtfmdhcialeddaaaDoorNuXB
namespace Go.Proofs.Dbl
open Go Go.TX Go.Proofs
set_option maxRecDepth 100000
set_option linter.unusedVariables false
set_option maxHeartbeats 0
/-! f52 strings.CutPrefix -/
def cutPre_h0 : Hints := Hints.nil 0
theorem cutPre_h0_ok : cutPre_h0.OK Tryd.prog (bodyOf Tryd.f52) := Hints.nil_ok
abbrev cutPre_R : Type := (ByteArray × Bool)
noncomputable def cutPre_t {γ : Type} (a0 : ByteArray) (a1 : ByteArray) (k : cutPre_R → Option γ) : Option γ := outOf (cutPre0 a0 a1) fun (x1 : (ByteArray × Bool)) => k (Prod.fst x1, Prod.snd x1)
noncomputable def cutPre (a0 : ByteArray) (a1 : ByteArray) : Option cutPre_R := cutPre_t a0 a1 some
theorem cutPre_t_eq {γ : Type} (a0 : ByteArray) (a1 : ByteArray) (k : cutPre_R → Option γ) : cutPre_t a0 a1 k = outOf (cutPre a0 a1) k := by
  delta cutPre cutPre_t; exact (Tr.bd fun x1 => Tr.lf)
noncomputable def cutPre_sp : TX.Spec := specD [.val .str, .val .str] [] fun _ a m k => match a, m with | ⟨a0, a1, _⟩, _ => outOf (cutPre a0 a1) fun v => k (.tup [.lit (.string v.1), .lit (.bool v.2)]) []
theorem cutPre_ev {α : Type} (a0 : ByteArray) (a1 : ByteArray) (k : Kont α) : evFun Tryd.prog NrBE1 (cutPre_h0) false Tryd.f52 (bodyOf Tryd.f52) 60 (mkS [.val .str, .val .str] (a0, a1, ())) (mkH [] ()) k = outOf (cutPre a0 a1) fun v => k (.tup [.lit (.string v.1), .lit (.bool v.2)]) [] :=
  (show _ = cutPre_t a0 a1 (fun v => k (.tup [.lit (.string v.1), .lit (.bool v.2)]) []) from by kernel_rfl).trans (cutPre_t_eq a0 a1 _)
theorem cutPre_good : TX.Good Tryd.prog 52 cutPre_sp := good_form NrBE1_ok mixed Tryd.func52 (body_of rfl) (by kernel_rfl) false fun α a m k r h => by
  obtain ⟨a0, a1, _⟩ := a; obtain _ := m
  exact ⟨cutPre_h0, 60, cutPre_h0_ok, rfl, (cutPre_ev a0 a1 k).trans h⟩
/-! f53 strings.CutSuffix -/
def cutSuf_h0 : Hints := Hints.nil 0
theorem cutSuf_h0_ok : cutSuf_h0.OK Tryd.prog (bodyOf Tryd.f53) := Hints.nil_ok
abbrev cutSuf_R : Type := (ByteArray × Bool)
noncomputable def cutSuf_t {γ : Type} (a0 : ByteArray) (a1 : ByteArray) (k : cutSuf_R → Option γ) : Option γ := outOf (cutSuf0 a0 a1) fun (x1 : (ByteArray × Bool)) => k (Prod.fst x1, Prod.snd x1)
noncomputable def cutSuf (a0 : ByteArray) (a1 : ByteArray) : Option cutSuf_R := cutSuf_t a0 a1 some
theorem cutSuf_t_eq {γ : Type} (a0 : ByteArray) (a1 : ByteArray) (k : cutSuf_R → Option γ) : cutSuf_t a0 a1 k = outOf (cutSuf a0 a1) k := by
  delta cutSuf cutSuf_t; exact (Tr.bd fun x1 => Tr.lf)
noncomputable def cutSuf_sp : TX.Spec := specD [.val .str, .val .str] [] fun _ a m k => match a, m with | ⟨a0, a1, _⟩, _ => outOf (cutSuf a0 a1) fun v => k (.tup [.lit (.string v.1), .lit (.bool v.2)]) []
theorem cutSuf_ev {α : Type} (a0 : ByteArray) (a1 : ByteArray) (k : Kont α) : evFun Tryd.prog NrBE1 (cutSuf_h0) false Tryd.f53 (bodyOf Tryd.f53) 60 (mkS [.val .str, .val .str] (a0, a1, ())) (mkH [] ()) k = outOf (cutSuf a0 a1) fun v => k (.tup [.lit (.string v.1), .lit (.bool v.2)]) [] :=
  (show _ = cutSuf_t a0 a1 (fun v => k (.tup [.lit (.string v.1), .lit (.bool v.2)]) []) from by kernel_rfl).trans (cutSuf_t_eq a0 a1 _)
theorem cutSuf_good : TX.Good Tryd.prog 53 cutSuf_sp := good_form NrBE1_ok mixed Tryd.func53 (body_of rfl) (by kernel_rfl) false fun α a m k r h => by
  obtain ⟨a0, a1, _⟩ := a; obtain _ := m
  exact ⟨cutSuf_h0, 60, cutSuf_h0_ok, rfl, (cutSuf_ev a0 a1 k).trans h⟩
/-! f54 tenterhook/num.digits -/
def num_digits_h0 : Hints := Hints.nil 0
theorem num_digits_h0_ok : num_digits_h0.OK Tryd.prog (bodyOf Tryd.f54) := Hints.nil_ok
def num_digits_L1_A : List SD := [.val .str, .val (.int .i64), .any, .any, .loc 0 0 0, .any, .loc 1 0 0, .any, .any, .any, .any, .any, .loc 2 0 0, .any, .any, .any, .any, .any, .any, .any, .any, .any, .any, .any, .any, .any, .any, .any, .any, .any, .any, .any, .any]
def num_digits_L1_H : List HD := [.box [.val (.int .i64), .val (.int .i64)], .box [.val (.int .i64), .val (.int .i64)], .it]
abbrev num_digits_L1_D : Type := ByteArray × Int × Int × Int × Int × Int × ByteArray × Nat
def num_digits_L1_to (a : DenS num_digits_L1_A) (m : DenH num_digits_L1_H) : num_digits_L1_D := (a.1, a.2.1, m.1.1, m.1.2.1, m.2.1.1, m.2.1.2.1, m.2.2.1.1, m.2.2.1.2)
def num_digits_L1_ofA (d : num_digits_L1_D) : DenS num_digits_L1_A := match d with | (s0, s1, m0_0, m0_1, m1_0, m1_1, m2_s, m2_p) => (s0, s1, (), (), (), (), (), (), (), (), (), (), (), (), (), (), (), (), (), (), (), (), (), (), (), (), (), (), (), (), (), (), (), ())
def num_digits_L1_ofH (d : num_digits_L1_D) : DenH num_digits_L1_H := match d with | (s0, s1, m0_0, m0_1, m1_0, m1_1, m2_s, m2_p) => ((m0_0, m0_1, ()), (m1_0, m1_1, ()), (m2_s, m2_p), ())
def num_digits_L1_N : Norm := (⟨[0, 1, 4, 6, 12], [], []⟩ : Go.TX.Norm)
def num_digits_L1_X : Exit → Norm := fun e => match e with | .exit 0 => ⟨[0, 4, 6], [], []⟩ | .ret => ⟨[4, 5], [], []⟩ | _ => ⟨[], [], []⟩
abbrev num_digits_L1_R : Type := ((Bool × Int × Int) ⊕ (ByteArray × Int × Int × Int × Int))
def num_digits_L1_fin (v : num_digits_L1_R) : Exit × St := sumOf v (fun v => (.ret, ⟨[.any, .any, .any, .any, .ptr 0 0 0, .lit (.bool v.1), .any, .any, .any, .any, .any, .any, .any, .any, .any, .any, .any, .any, .any, .any, .any, .any, .any, .any, .any, .any, .any, .any, .any, .any, .any, .any, .any], [.box [.lit (.int .i64 v.2.1), .lit (.int .i64 v.2.2)]]⟩)) (fun v => ((.exit 0), ⟨[.lit (.string v.1), .any, .any, .any, .ptr 0 0 0, .any, .ptr 1 0 0, .any, .any, .any, .any, .any, .any, .any, .any, .any, .any, .any, .any, .any, .any, .any, .any, .any, .any, .any, .any, .any, .any, .any, .any, .any, .any], [.box [.lit (.int .i64 v.2.1), .lit (.int .i64 v.2.2.1)], .box [.lit (.int .i64 v.2.2.2.1), .lit (.int .i64 v.2.2.2.2)]]⟩))
noncomputable def num_digits_L1_t {γ : Type} (s0 : ByteArray) (s1 : Int) (m0_0 : Int) (m0_1 : Int) (m1_0 : Int) (m1_1 : Int) (m2_s : ByteArray) (m2_p : Nat) (next : num_digits_L1_D → Option γ) (out : num_digits_L1_R → Option γ) : Option γ := cond (decide (m2_p < ByteArray.size m2_s)) (outOf (num_Digit (IntKind.wrap IntKind.i64 (runeAt m2_s m2_p)) s1) fun (x1 : (Int × Bool)) => cond (!Prod.snd x1) (out (.inl (false, (0 : Int), (0 : Int)))) (outOf (num_scaled m1_0 m1_1 s1 (Prod.fst x1)) fun (x2 : (Int × Int)) => next (s0, s1, m0_0, m0_1, Prod.fst x2, Prod.snd x2, m2_s, m2_p + runeW m2_s m2_p))) (out (.inr (s0, m0_0, m0_1, m1_0, m1_1)))
noncomputable def num_digits_L1_pass (d : num_digits_L1_D) : Option (num_digits_L1_D ⊕ num_digits_L1_R) := num_digits_L1_t d.1 d.2.1 d.2.2.1 d.2.2.2.1 d.2.2.2.2.1 d.2.2.2.2.2.1 d.2.2.2.2.2.2.1 d.2.2.2.2.2.2.2 (fun d => some (.inl d)) (fun x => some (.inr x))
theorem num_digits_L1_t_eq {γ : Type} (s0 : ByteArray) (s1 : Int) (m0_0 : Int) (m0_1 : Int) (m1_0 : Int) (m1_1 : Int) (m2_s : ByteArray) (m2_p : Nat) (next : num_digits_L1_D → Option γ) (out : num_digits_L1_R → Option γ) : num_digits_L1_t s0 s1 m0_0 m0_1 m1_0 m1_1 m2_s m2_p next out = PassOf (num_digits_L1_t s0 s1 m0_0 m0_1 m1_0 m1_1 m2_s m2_p (fun d => some (.inl d)) (fun x => some (.inr x))) next out := by
  delta num_digits_L1_t; exact (Ps.nd (Ps.bd fun x1 => (Ps.nd Ps.ou (Ps.bd fun x2 => Ps.nx))) Ps.ou)
theorem num_digits_L1_ev (α : Type) (d : num_digits_L1_D) (next : num_digits_L1_D → Option α) (k : Exit → St → Option α) : ev Tryd.prog NrBE1 num_digits_h0 60 [0, 0, 1, 0, 1, 1] ((codeAt (bodyOf Tryd.f54) [0, 0, 1, 0, 1, 1]).getD .skip) ⟨mkS num_digits_L1_A (num_digits_L1_ofA d), mkH num_digits_L1_H (num_digits_L1_ofH d)⟩ (passK 0 num_digits_L1_N num_digits_L1_A num_digits_L1_H num_digits_L1_X (fun a m => next (num_digits_L1_to a m)) k) = PassOf (num_digits_L1_pass d) next fun x => k (num_digits_L1_fin x).1 (num_digits_L1_fin x).2 := by
  obtain ⟨s0, s1, m0_0, m0_1, m1_0, m1_1, m2_s, m2_p⟩ := d
  exact (show _ = num_digits_L1_t s0 s1 m0_0 m0_1 m1_0 m1_1 m2_s m2_p next (fun x => k (num_digits_L1_fin x).1 (num_digits_L1_fin x).2) from by kernel_rfl).trans (num_digits_L1_t_eq s0 s1 m0_0 m0_1 m1_0 m1_1 m2_s m2_p _ _)
noncomputable def num_digits_L1 (d : num_digits_L1_D) : Option num_digits_L1_R := runs num_digits_L1_pass d
noncomputable def num_digits_L1_sp : CSpec := fun _ st k => reNorm 0 num_digits_L1_N num_digits_L1_A num_digits_L1_H st fun a m => outOf (num_digits_L1 (num_digits_L1_to a m)) fun v => sumOf v (fun v => k .ret ⟨[.any, .any, .any, .any, .ptr 0 0 0, .lit (.bool v.1), .any, .any, .any, .any, .any, .any, .any, .any, .any, .any, .any, .any, .any, .any, .any, .any, .any, .any, .any, .any, .any, .any, .any, .any, .any, .any, .any], [.box [.lit (.int .i64 v.2.1), .lit (.int .i64 v.2.2)]]⟩) (fun v => k (.exit 0) ⟨[.lit (.string v.1), .any, .any, .any, .ptr 0 0 0, .any, .ptr 1 0 0, .any, .any, .any, .any, .any, .any, .any, .any, .any, .any, .any, .any, .any, .any, .any, .any, .any, .any, .any, .any, .any, .any, .any, .any, .any, .any], [.box [.lit (.int .i64 v.2.1), .lit (.int .i64 v.2.2.1)], .box [.lit (.int .i64 v.2.2.2.1), .lit (.int .i64 v.2.2.2.2)]]⟩)
theorem num_digits_L1_ok : SumOK Tryd.prog 0 (.loop ((codeAt (bodyOf Tryd.f54) [0, 0, 1, 0, 1, 1]).getD .skip)) num_digits_L1_sp := (SumOK.loop NrBE1_ok mixed num_digits_h0_ok (show codeAt (bodyOf Tryd.f54) [0, 1, 0, 1, 1] = some (.loop ((codeAt (bodyOf Tryd.f54) [0, 0, 1, 0, 1, 1]).getD .skip)) from by kernel_rfl) (N := num_digits_L1_N) (Nx := num_digits_L1_X) (A := num_digits_L1_A) (Hs := num_digits_L1_H) (toD := num_digits_L1_to) (ofA := num_digits_L1_ofA) (ofH := num_digits_L1_ofH) (fun _ _ => rfl) (fun _ _ => rfl) (pass := num_digits_L1_pass) (fin := num_digits_L1_fin) 60 num_digits_L1_ev (steps num_digits_L1_pass)).mono fun α st k r h => by
  refine Eq.trans (congrArg (reNorm 0 num_digits_L1_N num_digits_L1_A num_digits_L1_H st) ?_) h
  funext a m
  exact outOf_congr fun x => by rcases x with x | x <;> rfl
noncomputable def num_digits_L1_h : Hints := num_digits_h0.add [0, 1, 0, 1, 1] num_digits_L1_sp
theorem num_digits_L1_h_ok : num_digits_L1_h.OK Tryd.prog (bodyOf Tryd.f54) := num_digits_h0_ok.add (show codeAt (bodyOf Tryd.f54) [0, 1, 0, 1, 1] = some (.loop ((codeAt (bodyOf Tryd.f54) [0, 0, 1, 0, 1, 1]).getD .skip)) from by kernel_rfl) num_digits_L1_ok
abbrev num_digits_R : Type := (Int × Int × Bool)
noncomputable def num_digits_t {γ : Type} (a0 : ByteArray) (a1 : Int) (k : num_digits_R → Option γ) : Option γ := outOf (num_digits_L1 (a0, a1, (0 : Int), (0 : Int), (0 : Int), (0 : Int), a0, (0 : Nat))) fun (x3 : Bool × Int × Int ⊕ ByteArray × Int × Int × Int × Int) => sumOf x3 (fun x4 => k (Prod.fst (Prod.snd x4), Prod.snd (Prod.snd x4), Prod.fst x4)) (fun x5 => k (Prod.fst (Prod.snd (Prod.snd (Prod.snd x5))), Prod.snd (Prod.snd (Prod.snd (Prod.snd x5))), !ByteArray.toList (Prod.fst x5) == ByteArray.toList (bytesOf [])))
noncomputable def num_digits (a0 : ByteArray) (a1 : Int) : Option num_digits_R := num_digits_t a0 a1 some
theorem num_digits_t_eq {γ : Type} (a0 : ByteArray) (a1 : Int) (k : num_digits_R → Option γ) : num_digits_t a0 a1 k = outOf (num_digits a0 a1) k := by
  delta num_digits num_digits_t; exact (Tr.bd fun x3 => (Tr.cs (fun x4 => Tr.lf) (fun x5 => Tr.lf)))
noncomputable def num_digits_sp : TX.Spec := specD [.val .str, .val (.int .i64)] [] fun _ a m k => match a, m with | ⟨a0, a1, _⟩, _ => outOf (num_digits a0 a1) fun v => k (.tup [.agg [.lit (.int .i64 v.1), .lit (.int .i64 v.2.1)], .lit (.bool v.2.2)]) []
theorem num_digits_ev {α : Type} (a0 : ByteArray) (a1 : Int) (k : Kont α) : evFun Tryd.prog NrBE1 (num_digits_L1_h) false Tryd.f54 (bodyOf Tryd.f54) 60 (mkS [.val .str, .val (.int .i64)] (a0, a1, ())) (mkH [] ()) k = outOf (num_digits a0 a1) fun v => k (.tup [.agg [.lit (.int .i64 v.1), .lit (.int .i64 v.2.1)], .lit (.bool v.2.2)]) [] :=
  (show _ = num_digits_t a0 a1 (fun v => k (.tup [.agg [.lit (.int .i64 v.1), .lit (.int .i64 v.2.1)], .lit (.bool v.2.2)]) []) from by kernel_rfl).trans (num_digits_t_eq a0 a1 _)
theorem num_digits_good : TX.Good Tryd.prog 54 num_digits_sp := good_form NrBE1_ok mixed Tryd.func54 (body_of rfl) (by kernel_rfl) false fun α a m k r h => by
  obtain ⟨a0, a1, _⟩ := a; obtain _ := m
  exact ⟨num_digits_L1_h, 60, num_digits_L1_h_ok, rfl, (num_digits_ev a0 a1 k).trans h⟩
noncomputable def NrCE1 : Env := NrBE1.add 52 true cutPre_sp |>.add 53 true cutSuf_sp |>.add 54 true num_digits_sp
theorem NrCE1_ok : NrCE1.OK Tryd.prog := (((NrBE1_ok).add_ok cutPre_good).add_ok cutSuf_good).add_ok num_digits_good
/-! f51 tenterhook/num.prefix -/
def num_prefix_h0 : Hints := Hints.nil 0
theorem num_prefix_h0_ok : num_prefix_h0.OK Tryd.prog (bodyOf Tryd.f51) := Hints.nil_ok
def num_prefix_L1_A : List SD := [.val .str, .val (.int .i64), .any, .any, .any, .any, .any, .any, .any, .any, .val (.sl .str), .val (.int .i64), .val (.int .i64), .any, .any, .any, .any, .any, .any, .any, .any, .any, .any, .any, .any, .any, .any, .any, .any, .any, .any, .any]
def num_prefix_L1_H : List HD := []
abbrev num_prefix_L1_D : Type := ByteArray × Int × (List ByteArray) × Int × Int
def num_prefix_L1_to (a : DenS num_prefix_L1_A) (m : DenH num_prefix_L1_H) : num_prefix_L1_D := (a.1, a.2.1, a.2.2.2.2.2.2.2.2.2.2.1, a.2.2.2.2.2.2.2.2.2.2.2.1, a.2.2.2.2.2.2.2.2.2.2.2.2.1)
def num_prefix_L1_ofA (d : num_prefix_L1_D) : DenS num_prefix_L1_A := match d with | (s0, s1, s10, s11, s12) => (s0, s1, (), (), (), (), (), (), (), (), s10, s11, s12, (), (), (), (), (), (), (), (), (), (), (), (), (), (), (), (), (), (), (), ())
def num_prefix_L1_ofH (d : num_prefix_L1_D) : DenH num_prefix_L1_H := match d with | (s0, s1, s10, s11, s12) => ()
def num_prefix_L1_N : Norm := (⟨[0, 1, 10, 11, 12], [], []⟩ : Go.TX.Norm)
def num_prefix_L1_X : Exit → Norm := fun e => match e with | .exit 0 => ⟨[0, 1], [], []⟩ | .ret => ⟨[4, 5], [], []⟩ | _ => ⟨[], [], []⟩
abbrev num_prefix_L1_R : Type := ((ByteArray × Int) ⊕ (ByteArray × Int))
def num_prefix_L1_fin (v : num_prefix_L1_R) : Exit × St := sumOf v (fun v => (.ret, ⟨[.any, .any, .any, .any, .lit (.string v.1), .lit (.int .i64 v.2), .any, .any, .any, .any, .any, .any, .any, .any, .any, .any, .any, .any, .any, .any, .any, .any, .any, .any, .any, .any, .any, .any, .any, .any, .any, .any], []⟩)) (fun v => ((.exit 0), ⟨[.lit (.string v.1), .lit (.int .i64 v.2), .any, .any, .any, .any, .any, .any, .any, .any, .any, .any, .any, .any, .any, .any, .any, .any, .any, .any, .any, .any, .any, .any, .any, .any, .any, .any, .any, .any, .any, .any], []⟩))
noncomputable def num_prefix_L1_t {γ : Type} (s0 : ByteArray) (s1 : Int) (s10 : (List ByteArray)) (s11 : Int) (s12 : Int) (next : num_prefix_L1_D → Option γ) (out : num_prefix_L1_R → Option γ) : Option γ := cond (decide (s12 < s11)) (cond (decide ((0 : Int) ≤ s12 ∧ s12 < (↑(List.length s10) : Int))) (outOf (cutPre s0 (List.getD s10 (Int.toNat s12) (bytesOf []))) fun (x1 : (ByteArray × Bool)) => cond (Prod.snd x1) (cond (decide ((0 : Int) ≤ s12 ∧ s12 < (3 : Int))) (out (.inl (Prod.fst x1, List.getD [(10 : Int), (16 : Int), (2 : Int)] (Int.toNat s12) (0 : Int)))) (none)) (next (s0, s1, s10, s11, IntKind.wrap IntKind.i64 (s12 + (1 : Int))))) (none)) (out (.inr (s0, s1)))
noncomputable def num_prefix_L1_pass (d : num_prefix_L1_D) : Option (num_prefix_L1_D ⊕ num_prefix_L1_R) := num_prefix_L1_t d.1 d.2.1 d.2.2.1 d.2.2.2.1 d.2.2.2.2 (fun d => some (.inl d)) (fun x => some (.inr x))
theorem num_prefix_L1_t_eq {γ : Type} (s0 : ByteArray) (s1 : Int) (s10 : (List ByteArray)) (s11 : Int) (s12 : Int) (next : num_prefix_L1_D → Option γ) (out : num_prefix_L1_R → Option γ) : num_prefix_L1_t s0 s1 s10 s11 s12 next out = PassOf (num_prefix_L1_t s0 s1 s10 s11 s12 (fun d => some (.inl d)) (fun x => some (.inr x))) next out := by
  delta num_prefix_L1_t; exact (Ps.nd (Ps.nd (Ps.bd fun x1 => (Ps.nd (Ps.nd Ps.ou Ps.no) Ps.nx)) Ps.no) Ps.ou)
theorem num_prefix_L1_ev (α : Type) (d : num_prefix_L1_D) (next : num_prefix_L1_D → Option α) (k : Exit → St → Option α) : ev Tryd.prog NrCE1 num_prefix_h0 60 [0, 0, 1, 0, 1] ((codeAt (bodyOf Tryd.f51) [0, 0, 1, 0, 1]).getD .skip) ⟨mkS num_prefix_L1_A (num_prefix_L1_ofA d), mkH num_prefix_L1_H (num_prefix_L1_ofH d)⟩ (passK 0 num_prefix_L1_N num_prefix_L1_A num_prefix_L1_H num_prefix_L1_X (fun a m => next (num_prefix_L1_to a m)) k) = PassOf (num_prefix_L1_pass d) next fun x => k (num_prefix_L1_fin x).1 (num_prefix_L1_fin x).2 := by
  obtain ⟨s0, s1, s10, s11, s12⟩ := d
  exact (show _ = num_prefix_L1_t s0 s1 s10 s11 s12 next (fun x => k (num_prefix_L1_fin x).1 (num_prefix_L1_fin x).2) from by kernel_rfl).trans (num_prefix_L1_t_eq s0 s1 s10 s11 s12 _ _)
noncomputable def num_prefix_L1 (d : num_prefix_L1_D) : Option num_prefix_L1_R := runs num_prefix_L1_pass d
noncomputable def num_prefix_L1_sp : CSpec := fun _ st k => reNorm 0 num_prefix_L1_N num_prefix_L1_A num_prefix_L1_H st fun a m => outOf (num_prefix_L1 (num_prefix_L1_to a m)) fun v => sumOf v (fun v => k .ret ⟨[.any, .any, .any, .any, .lit (.string v.1), .lit (.int .i64 v.2), .any, .any, .any, .any, .any, .any, .any, .any, .any, .any, .any, .any, .any, .any, .any, .any, .any, .any, .any, .any, .any, .any, .any, .any, .any, .any], []⟩) (fun v => k (.exit 0) ⟨[.lit (.string v.1), .lit (.int .i64 v.2), .any, .any, .any, .any, .any, .any, .any, .any, .any, .any, .any, .any, .any, .any, .any, .any, .any, .any, .any, .any, .any, .any, .any, .any, .any, .any, .any, .any, .any, .any], []⟩)
theorem num_prefix_L1_ok : SumOK Tryd.prog 0 (.loop ((codeAt (bodyOf Tryd.f51) [0, 0, 1, 0, 1]).getD .skip)) num_prefix_L1_sp := (SumOK.loop NrCE1_ok mixed num_prefix_h0_ok (show codeAt (bodyOf Tryd.f51) [0, 1, 0, 1] = some (.loop ((codeAt (bodyOf Tryd.f51) [0, 0, 1, 0, 1]).getD .skip)) from by kernel_rfl) (N := num_prefix_L1_N) (Nx := num_prefix_L1_X) (A := num_prefix_L1_A) (Hs := num_prefix_L1_H) (toD := num_prefix_L1_to) (ofA := num_prefix_L1_ofA) (ofH := num_prefix_L1_ofH) (fun _ _ => rfl) (fun _ _ => rfl) (pass := num_prefix_L1_pass) (fin := num_prefix_L1_fin) 60 num_prefix_L1_ev (steps num_prefix_L1_pass)).mono fun α st k r h => by
  refine Eq.trans (congrArg (reNorm 0 num_prefix_L1_N num_prefix_L1_A num_prefix_L1_H st) ?_) h
  funext a m
  exact outOf_congr fun x => by rcases x with x | x <;> rfl
noncomputable def num_prefix_L1_h : Hints := num_prefix_h0.add [0, 1, 0, 1] num_prefix_L1_sp
theorem num_prefix_L1_h_ok : num_prefix_L1_h.OK Tryd.prog (bodyOf Tryd.f51) := num_prefix_h0_ok.add (show codeAt (bodyOf Tryd.f51) [0, 1, 0, 1] = some (.loop ((codeAt (bodyOf Tryd.f51) [0, 0, 1, 0, 1]).getD .skip)) from by kernel_rfl) num_prefix_L1_ok
abbrev num_prefix_R : Type := (ByteArray × Int)
noncomputable def num_prefix_t {γ : Type} (a0 : ByteArray) (a1 : Int) (k : num_prefix_R → Option γ) : Option γ := outOf (num_prefix_L1 (a0, a1, [bytesOf [35], bytesOf [36], bytesOf [37]], (3 : Int), (0 : Int))) fun (x2 : ByteArray × Int ⊕ ByteArray × Int) => sumOf x2 (fun x3 => k (Prod.fst x3, Prod.snd x3)) (fun x4 => k (Prod.fst x4, Prod.snd x4))
noncomputable def num_prefix (a0 : ByteArray) (a1 : Int) : Option num_prefix_R := num_prefix_t a0 a1 some
theorem num_prefix_t_eq {γ : Type} (a0 : ByteArray) (a1 : Int) (k : num_prefix_R → Option γ) : num_prefix_t a0 a1 k = outOf (num_prefix a0 a1) k := by
  delta num_prefix num_prefix_t; exact (Tr.bd fun x2 => (Tr.cs (fun x3 => Tr.lf) (fun x4 => Tr.lf)))
noncomputable def num_prefix_sp : TX.Spec := specD [.val .str, .val (.int .i64)] [] fun _ a m k => match a, m with | ⟨a0, a1, _⟩, _ => outOf (num_prefix a0 a1) fun v => k (.tup [.lit (.string v.1), .lit (.int .i64 v.2)]) []
theorem num_prefix_ev {α : Type} (a0 : ByteArray) (a1 : Int) (k : Kont α) : evFun Tryd.prog NrCE1 (num_prefix_L1_h) false Tryd.f51 (bodyOf Tryd.f51) 60 (mkS [.val .str, .val (.int .i64)] (a0, a1, ())) (mkH [] ()) k = outOf (num_prefix a0 a1) fun v => k (.tup [.lit (.string v.1), .lit (.int .i64 v.2)]) [] :=
  (show _ = num_prefix_t a0 a1 (fun v => k (.tup [.lit (.string v.1), .lit (.int .i64 v.2)]) []) from by kernel_rfl).trans (num_prefix_t_eq a0 a1 _)
theorem num_prefix_good : TX.Good Tryd.prog 51 num_prefix_sp := good_form NrCE1_ok mixed Tryd.func51 (body_of rfl) (by kernel_rfl) false fun α a m k r h => by
  obtain ⟨a0, a1, _⟩ := a; obtain _ := m
  exact ⟨num_prefix_L1_h, 60, num_prefix_L1_h_ok, rfl, (num_prefix_ev a0 a1 k).trans h⟩
/-! f83 internal/strconv.FormatUint -/
def fmtUint0_h0 : Hints := Hints.nil 0
theorem fmtUint0_h0_ok : fmtUint0_h0.OK Tryd.prog (bodyOf Tryd.f83) := Hints.nil_ok
abbrev fmtUint0_R : Type := (ByteArray)
noncomputable def fmtUint0_t {γ : Type} (a0 : Int) (a1 : Int) (k : fmtUint0_R → Option γ) : Option γ := cond (a1 == (10 : Int)) (cond (decide (a0 < (100 : Int))) (outOf (small (IntKind.wrap IntKind.i64 a0)) fun (x1 : ByteArray) => k (x1)) (outOf (numDigits a0) fun (x2 : Int) => cond (decide ((0 : Int) ≤ (0 : Int) ∧ (0 : Int) ≤ x2 ∧ x2 ≤ (24 : Int))) (cond (decide ((0 : Int) ≤ a0 ∧ a0 < (18446744073709551616 : Int) ∧ Int.toNat a0 < (10 : Nat) ^ (Int.toNat x2 - (0 : Nat)) ∧ (0 : Nat) < Int.toNat x2 - (0 : Nat) ∧ (0 : Nat) + (Int.toNat x2 - (0 : Nat)) ≤ (24 : Nat) ∧ Int.toNat x2 - (0 : Nat) < (4611686018427387904 : Nat))) (cond (decide (List.length (List.take (0 : Nat) [(0 : Int), (0 : Int), (0 : Int), (0 : Int), (0 : Int), (0 : Int), (0 : Int), (0 : Int), (0 : Int), (0 : Int), (0 : Int), (0 : Int), (0 : Int), (0 : Int), (0 : Int), (0 : Int), (0 : Int), (0 : Int), (0 : Int), (0 : Int), (0 : Int), (0 : Int), (0 : Int), (0 : Int)] ++ dec10 (Int.toNat x2 - (0 : Nat)) a0 ++ List.drop ((0 : Nat) + (Int.toNat x2 - (0 : Nat))) [(0 : Int), (0 : Int), (0 : Int), (0 : Int), (0 : Int), (0 : Int), (0 : Int), (0 : Int), (0 : Int), (0 : Int), (0 : Int), (0 : Int), (0 : Int), (0 : Int), (0 : Int), (0 : Int), (0 : Int), (0 : Int), (0 : Int), (0 : Int), (0 : Int), (0 : Int), (0 : Int), (0 : Int)]) = (24 : Nat))) (cond (decide ((0 : Int) ≤ (0 : Int) ∧ (0 : Int) ≤ x2 ∧ x2 ≤ (24 : Int))) (k (strOf (List.take (Int.toNat x2 - (0 : Nat)) (List.drop (0 : Nat) (List.take (0 : Nat) [(0 : Int), (0 : Int), (0 : Int), (0 : Int), (0 : Int), (0 : Int), (0 : Int), (0 : Int), (0 : Int), (0 : Int), (0 : Int), (0 : Int), (0 : Int), (0 : Int), (0 : Int), (0 : Int), (0 : Int), (0 : Int), (0 : Int), (0 : Int), (0 : Int), (0 : Int), (0 : Int), (0 : Int)] ++ dec10 (Int.toNat x2 - (0 : Nat)) a0 ++ List.drop ((0 : Nat) + (Int.toNat x2 - (0 : Nat))) [(0 : Int), (0 : Int), (0 : Int), (0 : Int), (0 : Int), (0 : Int), (0 : Int), (0 : Int), (0 : Int), (0 : Int), (0 : Int), (0 : Int), (0 : Int), (0 : Int), (0 : Int), (0 : Int), (0 : Int), (0 : Int), (0 : Int), (0 : Int), (0 : Int), (0 : Int), (0 : Int), (0 : Int)]))))) (none)) (none)) (none)) (none))) (outOf (formatBits [] a0 a1 false) fun (x3 : ((List Int) × ByteArray)) => k (Prod.snd x3))
noncomputable def fmtUint0 (a0 : Int) (a1 : Int) : Option fmtUint0_R := fmtUint0_t a0 a1 some
theorem fmtUint0_t_eq {γ : Type} (a0 : Int) (a1 : Int) (k : fmtUint0_R → Option γ) : fmtUint0_t a0 a1 k = outOf (fmtUint0 a0 a1) k := by
  delta fmtUint0 fmtUint0_t; exact (Tr.nd (Tr.nd (Tr.bd fun x1 => Tr.lf) (Tr.bd fun x2 => (Tr.nd (Tr.nd (Tr.nd (Tr.nd Tr.lf Tr.no) Tr.no) Tr.no) Tr.no))) (Tr.bd fun x3 => Tr.lf))
noncomputable def fmtUint0_sp : TX.Spec := specD [.val (.int .u64), .val (.int .i64)] [] fun _ a m k => match a, m with | ⟨a0, a1, _⟩, _ => outOf (fmtUint0 a0 a1) fun v => k (.lit (.string v)) []
theorem fmtUint0_ev {α : Type} (a0 : Int) (a1 : Int) (k : Kont α) : evFun Tryd.prog NrCE1 (fmtUint0_h0) false Tryd.f83 (bodyOf Tryd.f83) 60 (mkS [.val (.int .u64), .val (.int .i64)] (a0, a1, ())) (mkH [] ()) k = outOf (fmtUint0 a0 a1) fun v => k (.lit (.string v)) [] :=
  (show _ = fmtUint0_t a0 a1 (fun v => k (.lit (.string v)) []) from by kernel_rfl).trans (fmtUint0_t_eq a0 a1 _)
theorem fmtUint0_good : TX.Good Tryd.prog 83 fmtUint0_sp := good_form NrCE1_ok mixed Tryd.func83 (body_of rfl) (by kernel_rfl) false fun α a m k r h => by
  obtain ⟨a0, a1, _⟩ := a; obtain _ := m
  exact ⟨fmtUint0_h0, 60, fmtUint0_h0_ok, rfl, (fmtUint0_ev a0 a1 k).trans h⟩
/-! f90 internal/strconv.FormatInt -/
def fmtInt0_h0 : Hints := Hints.nil 0
theorem fmtInt0_h0_ok : fmtInt0_h0.OK Tryd.prog (bodyOf Tryd.f90) := Hints.nil_ok
def fmtInt0_M1_A : List SD := [.val (.int .i64), .any, .any, .any, .any, .any, .any, .any, .any, .any, .any, .any, .any, .any, .any, .any, .any, .any, .any, .any, .any, .any, .any, .any, .any, .any, .any, .any, .any, .any, .any, .any, .any, .any, .any, .any, .any, .any, .any, .any, .any, .any, .any, .any, .any, .any, .any, .any, .any, .any, .any, .any, .any, .any]
def fmtInt0_M1_H : List HD := []
abbrev fmtInt0_M1_D : Type := Int
def fmtInt0_M1_to (a : DenS fmtInt0_M1_A) (m : DenH fmtInt0_M1_H) : fmtInt0_M1_D := (a.1)
def fmtInt0_M1_ofA (d : fmtInt0_M1_D) : DenS fmtInt0_M1_A := match d with | (s0) => (s0, (), (), (), (), (), (), (), (), (), (), (), (), (), (), (), (), (), (), (), (), (), (), (), (), (), (), (), (), (), (), (), (), (), (), (), (), (), (), (), (), (), (), (), (), (), (), (), (), (), (), (), (), (), ())
def fmtInt0_M1_ofH (d : fmtInt0_M1_D) : DenH fmtInt0_M1_H := match d with | (s0) => ()
def fmtInt0_M1_N : Norm := (⟨[0], [], []⟩ : Go.TX.Norm)
def fmtInt0_M1_X : Exit → Norm := fun e => match e with | .normal => ⟨[0], [], []⟩ | .ret => ⟨[4], [], []⟩ | _ => ⟨[], [], []⟩
abbrev fmtInt0_M1_R : Type := ((ByteArray) ⊕ (Unit))
def fmtInt0_M1_fin (d : fmtInt0_M1_D) (v : fmtInt0_M1_R) : Exit × St := sumOf v (fun v => (.ret, ⟨[.any, .any, .any, .any, .lit (.string v), .any, .any, .any, .any, .any, .any, .any, .any, .any, .any, .any, .any, .any, .any, .any, .any, .any, .any, .any, .any, .any, .any, .any, .any, .any, .any, .any, .any, .any, .any, .any, .any, .any, .any, .any, .any, .any, .any, .any, .any, .any, .any, .any, .any, .any, .any, .any, .any, .any], []⟩)) (fun v => (.normal, ⟨[.lit (.int .i64 d), .any, .any, .any, .any, .any, .any, .any, .any, .any, .any, .any, .any, .any, .any, .any, .any, .any, .any, .any, .any, .any, .any, .any, .any, .any, .any, .any, .any, .any, .any, .any, .any, .any, .any, .any, .any, .any, .any, .any, .any, .any, .any, .any, .any, .any, .any, .any, .any, .any, .any, .any, .any, .any], []⟩))
noncomputable def fmtInt0_M1_t {γ : Type} (s0 : Int) (k : fmtInt0_M1_R → Option γ) : Option γ := cond (decide ((0 : Int) ≤ s0)) (cond (decide (s0 < (100 : Int))) (outOf (small s0) fun (x3 : ByteArray) => k (.inl (x3))) (k (.inr ()))) (k (.inr ()))
noncomputable def fmtInt0_M1 (s0 : Int) : Option fmtInt0_M1_R := fmtInt0_M1_t s0 some
theorem fmtInt0_M1_t_eq {γ : Type} (s0 : Int) (k : fmtInt0_M1_R → Option γ) : fmtInt0_M1_t s0 k = outOf (fmtInt0_M1 s0) k := by
  delta fmtInt0_M1 fmtInt0_M1_t; exact (Tr.nd (Tr.nd (Tr.bd fun x3 => Tr.lf) Tr.lf) Tr.lf)
theorem fmtInt0_M1_ev (α : Type) (d : fmtInt0_M1_D) (k : Exit → St → Option α) : ev Tryd.prog NrCE1 fmtInt0_h0 60 [0, 0, 1, 0, 1] ((codeAt (bodyOf Tryd.f90) [0, 0, 1, 0, 1]).getD .skip) ⟨mkS fmtInt0_M1_A (fmtInt0_M1_ofA d), mkH fmtInt0_M1_H (fmtInt0_M1_ofH d)⟩ (exitN 0 fmtInt0_M1_X k) = outOf (fmtInt0_M1 d) fun x => k (fmtInt0_M1_fin d x).1 (fmtInt0_M1_fin d x).2 := by
  revert d; intro s0
  exact (show _ = fmtInt0_M1_t s0 (fun x => k (fmtInt0_M1_fin (s0) x).1 (fmtInt0_M1_fin (s0) x).2) from by kernel_rfl).trans (fmtInt0_M1_t_eq s0 _)
noncomputable def fmtInt0_M1_sp : CSpec := fun _ st k => reNorm 0 fmtInt0_M1_N fmtInt0_M1_A fmtInt0_M1_H st fun a m => outOf (fmtInt0_M1 (fmtInt0_M1_to a m)) fun v => sumOf v (fun v => k .ret ⟨[.any, .any, .any, .any, .lit (.string v), .any, .any, .any, .any, .any, .any, .any, .any, .any, .any, .any, .any, .any, .any, .any, .any, .any, .any, .any, .any, .any, .any, .any, .any, .any, .any, .any, .any, .any, .any, .any, .any, .any, .any, .any, .any, .any, .any, .any, .any, .any, .any, .any, .any, .any, .any, .any, .any, .any], []⟩) (fun v => k .normal ⟨[.lit (.int .i64 (fmtInt0_M1_to a m)), .any, .any, .any, .any, .any, .any, .any, .any, .any, .any, .any, .any, .any, .any, .any, .any, .any, .any, .any, .any, .any, .any, .any, .any, .any, .any, .any, .any, .any, .any, .any, .any, .any, .any, .any, .any, .any, .any, .any, .any, .any, .any, .any, .any, .any, .any, .any, .any, .any, .any, .any, .any, .any], []⟩)
theorem fmtInt0_M1_ok : SumOK Tryd.prog 0 ((codeAt (bodyOf Tryd.f90) [0, 0, 1, 0, 1]).getD .skip) fmtInt0_M1_sp := (SumOK.once NrCE1_ok mixed fmtInt0_h0_ok (show codeAt (bodyOf Tryd.f90) [0, 0, 1, 0, 1] = some ((codeAt (bodyOf Tryd.f90) [0, 0, 1, 0, 1]).getD .skip) from by kernel_rfl) (N := fmtInt0_M1_N) (Nx := fmtInt0_M1_X) (A := fmtInt0_M1_A) (Hs := fmtInt0_M1_H) (toD := fmtInt0_M1_to) (ofA := fmtInt0_M1_ofA) (ofH := fmtInt0_M1_ofH) (fun _ _ => rfl) (fun _ _ => rfl) (M := fun d => fmtInt0_M1 d) (fin := fmtInt0_M1_fin) 60 fmtInt0_M1_ev).mono fun α st k r h => by
  refine Eq.trans (congrArg (reNorm 0 fmtInt0_M1_N fmtInt0_M1_A fmtInt0_M1_H st) ?_) h
  funext a m
  exact outOf_congr fun x => by rcases x with x | x <;> rfl
noncomputable def fmtInt0_M1_h : Hints := fmtInt0_h0.add [0, 0, 1, 0, 1] fmtInt0_M1_sp
theorem fmtInt0_M1_h_ok : fmtInt0_M1_h.OK Tryd.prog (bodyOf Tryd.f90) := fmtInt0_h0_ok.add (show codeAt (bodyOf Tryd.f90) [0, 0, 1, 0, 1] = some ((codeAt (bodyOf Tryd.f90) [0, 0, 1, 0, 1]).getD .skip) from by kernel_rfl) fmtInt0_M1_ok
def fmtInt0_M2_A : List SD := [.val (.int .i64), .any, .any, .any, .any, .loc 0 0 0, .val (.int .u64), .any, .any, .any, .any, .any, .any, .any, .any, .any, .any, .any, .any, .any, .any, .any, .any, .any, .any, .any, .any, .any, .any, .any, .any, .any, .any, .any, .any, .any, .any, .any, .any, .any, .any, .any, .any, .any, .any, .any, .any, .any, .any, .any, .any, .any, .any, .any]
def fmtInt0_M2_H : List HD := [.row (.int .u8)]
abbrev fmtInt0_M2_D : Type := Int × Int × (List Int)
def fmtInt0_M2_to (a : DenS fmtInt0_M2_A) (m : DenH fmtInt0_M2_H) : fmtInt0_M2_D := (a.1, a.2.2.2.2.2.2.1, m.1)
def fmtInt0_M2_ofA (d : fmtInt0_M2_D) : DenS fmtInt0_M2_A := match d with | (s0, s6, m0) => (s0, (), (), (), (), (), s6, (), (), (), (), (), (), (), (), (), (), (), (), (), (), (), (), (), (), (), (), (), (), (), (), (), (), (), (), (), (), (), (), (), (), (), (), (), (), (), (), (), (), (), (), (), (), (), ())
def fmtInt0_M2_ofH (d : fmtInt0_M2_D) : DenH fmtInt0_M2_H := match d with | (s0, s6, m0) => (m0, ())
def fmtInt0_M2_N : Norm := (⟨[0, 5, 6], [], []⟩ : Go.TX.Norm)
def fmtInt0_M2_X : Exit → Norm := fun e => match e with | .normal => ⟨[0, 5, 6], [], []⟩ | _ => ⟨[], [], []⟩
abbrev fmtInt0_M2_R : Type := (Int)
def fmtInt0_M2_fin (d : fmtInt0_M2_D) (v : fmtInt0_M2_R) : Exit × St := (.normal, ⟨[.lit (.int .i64 d.1), .any, .any, .any, .any, .ptr 0 0 0, .lit (.int .u64 v), .any, .any, .any, .any, .any, .any, .any, .any, .any, .any, .any, .any, .any, .any, .any, .any, .any, .any, .any, .any, .any, .any, .any, .any, .any, .any, .any, .any, .any, .any, .any, .any, .any, .any, .any, .any, .any, .any, .any, .any, .any, .any, .any, .any, .any, .any, .any], [.row (.int .u8) d.2.2]⟩)
noncomputable def fmtInt0_M2_t {γ : Type} (s0 : Int) (s6 : Int) (k : fmtInt0_M2_R → Option γ) : Option γ := cond (decide (s0 < (0 : Int))) (k (IntKind.wrap IntKind.u64 ((0 : Int) - s6))) (k (s6))
noncomputable def fmtInt0_M2 (s0 : Int) (s6 : Int) : Option fmtInt0_M2_R := fmtInt0_M2_t s0 s6 some
theorem fmtInt0_M2_t_eq {γ : Type} (s0 : Int) (s6 : Int) (k : fmtInt0_M2_R → Option γ) : fmtInt0_M2_t s0 s6 k = outOf (fmtInt0_M2 s0 s6) k := by
  delta fmtInt0_M2 fmtInt0_M2_t; exact (Tr.nd Tr.lf Tr.lf)
theorem fmtInt0_M2_ev (α : Type) (d : fmtInt0_M2_D) (k : Exit → St → Option α) : ev Tryd.prog NrCE1 fmtInt0_M1_h 60 [0, 1, 1, 1, 0, 1, 0, 1] ((codeAt (bodyOf Tryd.f90) [0, 1, 1, 1, 0, 1, 0, 1]).getD .skip) ⟨mkS fmtInt0_M2_A (fmtInt0_M2_ofA d), mkH fmtInt0_M2_H (fmtInt0_M2_ofH d)⟩ (exitN 0 fmtInt0_M2_X k) = outOf (fmtInt0_M2 d.1 d.2.1) fun x => k (fmtInt0_M2_fin d x).1 (fmtInt0_M2_fin d x).2 := by
  obtain ⟨s0, s6, m0⟩ := d
  exact (show _ = fmtInt0_M2_t s0 s6 (fun x => k (fmtInt0_M2_fin (s0, s6, m0) x).1 (fmtInt0_M2_fin (s0, s6, m0) x).2) from by kernel_rfl).trans (fmtInt0_M2_t_eq s0 s6 _)
noncomputable def fmtInt0_M2_sp : CSpec := fun _ st k => reNorm 0 fmtInt0_M2_N fmtInt0_M2_A fmtInt0_M2_H st fun a m => outOf (fmtInt0_M2 (fmtInt0_M2_to a m).1 (fmtInt0_M2_to a m).2.1) fun v => k .normal ⟨[.lit (.int .i64 (fmtInt0_M2_to a m).1), .any, .any, .any, .any, .ptr 0 0 0, .lit (.int .u64 v), .any, .any, .any, .any, .any, .any, .any, .any, .any, .any, .any, .any, .any, .any, .any, .any, .any, .any, .any, .any, .any, .any, .any, .any, .any, .any, .any, .any, .any, .any, .any, .any, .any, .any, .any, .any, .any, .any, .any, .any, .any, .any, .any, .any, .any, .any, .any], [.row (.int .u8) (fmtInt0_M2_to a m).2.2]⟩
theorem fmtInt0_M2_ok : SumOK Tryd.prog 0 ((codeAt (bodyOf Tryd.f90) [0, 1, 1, 1, 0, 1, 0, 1]).getD .skip) fmtInt0_M2_sp := (SumOK.once NrCE1_ok mixed fmtInt0_M1_h_ok (show codeAt (bodyOf Tryd.f90) [0, 1, 1, 1, 0, 1, 0, 1] = some ((codeAt (bodyOf Tryd.f90) [0, 1, 1, 1, 0, 1, 0, 1]).getD .skip) from by kernel_rfl) (N := fmtInt0_M2_N) (Nx := fmtInt0_M2_X) (A := fmtInt0_M2_A) (Hs := fmtInt0_M2_H) (toD := fmtInt0_M2_to) (ofA := fmtInt0_M2_ofA) (ofH := fmtInt0_M2_ofH) (fun _ _ => rfl) (fun _ _ => rfl) (M := fun d => fmtInt0_M2 d.1 d.2.1) (fin := fmtInt0_M2_fin) 60 fmtInt0_M2_ev).mono fun α st k r h => by
  refine Eq.trans (congrArg (reNorm 0 fmtInt0_M2_N fmtInt0_M2_A fmtInt0_M2_H st) ?_) h
  funext a m
  exact outOf_congr fun x => rfl
noncomputable def fmtInt0_M2_h : Hints := fmtInt0_M1_h.add [0, 1, 1, 1, 0, 1, 0, 1] fmtInt0_M2_sp
theorem fmtInt0_M2_h_ok : fmtInt0_M2_h.OK Tryd.prog (bodyOf Tryd.f90) := fmtInt0_M1_h_ok.add (show codeAt (bodyOf Tryd.f90) [0, 1, 1, 1, 0, 1, 0, 1] = some ((codeAt (bodyOf Tryd.f90) [0, 1, 1, 1, 0, 1, 0, 1]).getD .skip) from by kernel_rfl) fmtInt0_M2_ok
abbrev fmtInt0_R : Type := (ByteArray)
noncomputable def fmtInt0_t {γ : Type} (a0 : Int) (a1 : Int) (k : fmtInt0_R → Option γ) : Option γ := cond (a1 == (10 : Int)) (outOf (fmtInt0_M1 a0) fun (x12 : ByteArray ⊕ Unit) => sumOf x12 (fun x13 => k (x13)) (fun x14 => outOf (fmtInt0_M2 a0 (IntKind.wrap IntKind.u64 a0)) fun (x15 : Int) => outOf (numDigits x15) fun (x16 : Int) => cond (decide ((0 : Int) ≤ (1 : Int) ∧ (1 : Int) ≤ IntKind.wrap IntKind.i64 ((1 : Int) + x16) ∧ IntKind.wrap IntKind.i64 ((1 : Int) + x16) ≤ (24 : Int))) (cond (decide ((0 : Int) ≤ x15 ∧ x15 < (18446744073709551616 : Int) ∧ Int.toNat x15 < (10 : Nat) ^ (Int.toNat (IntKind.wrap IntKind.i64 ((1 : Int) + x16)) - (1 : Nat)) ∧ (0 : Nat) < Int.toNat (IntKind.wrap IntKind.i64 ((1 : Int) + x16)) - (1 : Nat) ∧ (1 : Nat) + (Int.toNat (IntKind.wrap IntKind.i64 ((1 : Int) + x16)) - (1 : Nat)) ≤ (24 : Nat) ∧ Int.toNat (IntKind.wrap IntKind.i64 ((1 : Int) + x16)) - (1 : Nat) < (4611686018427387904 : Nat))) (cond (decide (a0 < (0 : Int))) (cond (decide (List.length (List.set (List.take (1 : Nat) [(0 : Int), (0 : Int), (0 : Int), (0 : Int), (0 : Int), (0 : Int), (0 : Int), (0 : Int), (0 : Int), (0 : Int), (0 : Int), (0 : Int), (0 : Int), (0 : Int), (0 : Int), (0 : Int), (0 : Int), (0 : Int), (0 : Int), (0 : Int), (0 : Int), (0 : Int), (0 : Int), (0 : Int)] ++ dec10 (Int.toNat (IntKind.wrap IntKind.i64 ((1 : Int) + x16)) - (1 : Nat)) x15 ++ List.drop ((1 : Nat) + (Int.toNat (IntKind.wrap IntKind.i64 ((1 : Int) + x16)) - (1 : Nat))) [(0 : Int), (0 : Int), (0 : Int), (0 : Int), (0 : Int), (0 : Int), (0 : Int), (0 : Int), (0 : Int), (0 : Int), (0 : Int), (0 : Int), (0 : Int), (0 : Int), (0 : Int), (0 : Int), (0 : Int), (0 : Int), (0 : Int), (0 : Int), (0 : Int), (0 : Int), (0 : Int), (0 : Int)]) (0 : Nat) (45 : Int)) = (24 : Nat))) (cond (decide ((0 : Int) ≤ (0 : Int) ∧ (0 : Int) ≤ IntKind.wrap IntKind.i64 ((1 : Int) + x16) ∧ IntKind.wrap IntKind.i64 ((1 : Int) + x16) ≤ (24 : Int))) (k (strOf (List.take (Int.toNat (IntKind.wrap IntKind.i64 ((1 : Int) + x16)) - (0 : Nat)) (List.drop (0 : Nat) (List.set (List.take (1 : Nat) [(0 : Int), (0 : Int), (0 : Int), (0 : Int), (0 : Int), (0 : Int), (0 : Int), (0 : Int), (0 : Int), (0 : Int), (0 : Int), (0 : Int), (0 : Int), (0 : Int), (0 : Int), (0 : Int), (0 : Int), (0 : Int), (0 : Int), (0 : Int), (0 : Int), (0 : Int), (0 : Int), (0 : Int)] ++ dec10 (Int.toNat (IntKind.wrap IntKind.i64 ((1 : Int) + x16)) - (1 : Nat)) x15 ++ List.drop ((1 : Nat) + (Int.toNat (IntKind.wrap IntKind.i64 ((1 : Int) + x16)) - (1 : Nat))) [(0 : Int), (0 : Int), (0 : Int), (0 : Int), (0 : Int), (0 : Int), (0 : Int), (0 : Int), (0 : Int), (0 : Int), (0 : Int), (0 : Int), (0 : Int), (0 : Int), (0 : Int), (0 : Int), (0 : Int), (0 : Int), (0 : Int), (0 : Int), (0 : Int), (0 : Int), (0 : Int), (0 : Int)]) (0 : Nat) (45 : Int)))))) (none)) (none)) (cond (decide (List.length (List.take (1 : Nat) [(0 : Int), (0 : Int), (0 : Int), (0 : Int), (0 : Int), (0 : Int), (0 : Int), (0 : Int), (0 : Int), (0 : Int), (0 : Int), (0 : Int), (0 : Int), (0 : Int), (0 : Int), (0 : Int), (0 : Int), (0 : Int), (0 : Int), (0 : Int), (0 : Int), (0 : Int), (0 : Int), (0 : Int)] ++ dec10 (Int.toNat (IntKind.wrap IntKind.i64 ((1 : Int) + x16)) - (1 : Nat)) x15 ++ List.drop ((1 : Nat) + (Int.toNat (IntKind.wrap IntKind.i64 ((1 : Int) + x16)) - (1 : Nat))) [(0 : Int), (0 : Int), (0 : Int), (0 : Int), (0 : Int), (0 : Int), (0 : Int), (0 : Int), (0 : Int), (0 : Int), (0 : Int), (0 : Int), (0 : Int), (0 : Int), (0 : Int), (0 : Int), (0 : Int), (0 : Int), (0 : Int), (0 : Int), (0 : Int), (0 : Int), (0 : Int), (0 : Int)]) = (24 : Nat))) (cond (decide ((0 : Int) ≤ (1 : Int) ∧ (1 : Int) ≤ IntKind.wrap IntKind.i64 ((1 : Int) + x16) ∧ IntKind.wrap IntKind.i64 ((1 : Int) + x16) ≤ (24 : Int))) (k (strOf (List.take (Int.toNat (IntKind.wrap IntKind.i64 ((1 : Int) + x16)) - (1 : Nat)) (List.drop (1 : Nat) (List.take (1 : Nat) [(0 : Int), (0 : Int), (0 : Int), (0 : Int), (0 : Int), (0 : Int), (0 : Int), (0 : Int), (0 : Int), (0 : Int), (0 : Int), (0 : Int), (0 : Int), (0 : Int), (0 : Int), (0 : Int), (0 : Int), (0 : Int), (0 : Int), (0 : Int), (0 : Int), (0 : Int), (0 : Int), (0 : Int)] ++ dec10 (Int.toNat (IntKind.wrap IntKind.i64 ((1 : Int) + x16)) - (1 : Nat)) x15 ++ List.drop ((1 : Nat) + (Int.toNat (IntKind.wrap IntKind.i64 ((1 : Int) + x16)) - (1 : Nat))) [(0 : Int), (0 : Int), (0 : Int), (0 : Int), (0 : Int), (0 : Int), (0 : Int), (0 : Int), (0 : Int), (0 : Int), (0 : Int), (0 : Int), (0 : Int), (0 : Int), (0 : Int), (0 : Int), (0 : Int), (0 : Int), (0 : Int), (0 : Int), (0 : Int), (0 : Int), (0 : Int), (0 : Int)]))))) (none)) (none))) (none)) (none))) (outOf (formatBits [] (IntKind.wrap IntKind.u64 a0) a1 (decide (a0 < (0 : Int)))) fun (x17 : ((List Int) × ByteArray)) => k (Prod.snd x17))
noncomputable def fmtInt0 (a0 : Int) (a1 : Int) : Option fmtInt0_R := fmtInt0_t a0 a1 some
theorem fmtInt0_t_eq {γ : Type} (a0 : Int) (a1 : Int) (k : fmtInt0_R → Option γ) : fmtInt0_t a0 a1 k = outOf (fmtInt0 a0 a1) k := by
  delta fmtInt0 fmtInt0_t; exact (Tr.nd (Tr.bd fun x12 => (Tr.cs (fun x13 => Tr.lf) (fun x14 => (Tr.bd fun x15 => (Tr.bd fun x16 => (Tr.nd (Tr.nd (Tr.nd (Tr.nd (Tr.nd Tr.lf Tr.no) Tr.no) (Tr.nd (Tr.nd Tr.lf Tr.no) Tr.no)) Tr.no) Tr.no)))))) (Tr.bd fun x17 => Tr.lf))
noncomputable def fmtInt0_sp : TX.Spec := specD [.val (.int .i64), .val (.int .i64)] [] fun _ a m k => match a, m with | ⟨a0, a1, _⟩, _ => outOf (fmtInt0 a0 a1) fun v => k (.lit (.string v)) []
theorem fmtInt0_ev {α : Type} (a0 : Int) (a1 : Int) (k : Kont α) : evFun Tryd.prog NrCE1 (fmtInt0_M2_h) false Tryd.f90 (bodyOf Tryd.f90) 60 (mkS [.val (.int .i64), .val (.int .i64)] (a0, a1, ())) (mkH [] ()) k = outOf (fmtInt0 a0 a1) fun v => k (.lit (.string v)) [] :=
  (show _ = fmtInt0_t a0 a1 (fun v => k (.lit (.string v)) []) from by kernel_rfl).trans (fmtInt0_t_eq a0 a1 _)
theorem fmtInt0_good : TX.Good Tryd.prog 90 fmtInt0_sp := good_form NrCE1_ok mixed Tryd.func90 (body_of rfl) (by kernel_rfl) false fun α a m k r h => by
  obtain ⟨a0, a1, _⟩ := a; obtain _ := m
  exact ⟨fmtInt0_M2_h, 60, fmtInt0_M2_h_ok, rfl, (fmtInt0_ev a0 a1 k).trans h⟩
noncomputable def NrCE2 : Env := NrCE1.add 51 true num_prefix_sp |>.add 83 true fmtUint0_sp |>.add 90 true fmtInt0_sp
theorem NrCE2_ok : NrCE2.OK Tryd.prog := (((NrCE1_ok).add_ok num_prefix_good).add_ok fmtUint0_good).add_ok fmtInt0_good
/-! f17 tenterhook/num.Parse -/
def num_Parse_h0 : Hints := Hints.nil 0
theorem num_Parse_h0_ok : num_Parse_h0.OK Tryd.prog (bodyOf Tryd.f17) := Hints.nil_ok
def num_Parse_M1_A : List SD := [.val .str, .val (.int .i64), .any, .any, .any, .any, .any, .any, .any, .any, .any, .any, .any, .any, .any, .any, .any, .any, .any, .any, .any, .any, .any, .any, .any, .any, .any, .any, .any, .any, .any, .any, .any, .any, .any, .any, .any, .any, .any, .any, .any, .any, .any, .any, .any, .any, .any, .any, .any, .any, .any, .any, .any, .any, .any, .any, .any, .any, .any, .any, .any, .any, .any, .any]
def num_Parse_M1_H : List HD := []
abbrev num_Parse_M1_D : Type := ByteArray × Int
def num_Parse_M1_to (a : DenS num_Parse_M1_A) (m : DenH num_Parse_M1_H) : num_Parse_M1_D := (a.1, a.2.1)
def num_Parse_M1_ofA (d : num_Parse_M1_D) : DenS num_Parse_M1_A := match d with | (s0, s1) => (s0, s1, (), (), (), (), (), (), (), (), (), (), (), (), (), (), (), (), (), (), (), (), (), (), (), (), (), (), (), (), (), (), (), (), (), (), (), (), (), (), (), (), (), (), (), (), (), (), (), (), (), (), (), (), (), (), (), (), (), (), (), (), (), (), ())
def num_Parse_M1_ofH (d : num_Parse_M1_D) : DenH num_Parse_M1_H := match d with | (s0, s1) => ()
def num_Parse_M1_N : Norm := (⟨[0, 1], [], []⟩ : Go.TX.Norm)
def num_Parse_M1_X : Exit → Norm := fun e => match e with | .normal => ⟨[0, 1], [], []⟩ | .ret => ⟨[4, 5], [], []⟩ | _ => ⟨[], [], []⟩
abbrev num_Parse_M1_R : Type := (((List Int) × Bool) ⊕ (Unit))
def num_Parse_M1_fin (d : num_Parse_M1_D) (v : num_Parse_M1_R) : Exit × St := sumOf v (fun v => (.ret, ⟨[.any, .any, .any, .any, .sl (.int .i64) v.1 true, .lit (.bool v.2), .any, .any, .any, .any, .any, .any, .any, .any, .any, .any, .any, .any, .any, .any, .any, .any, .any, .any, .any, .any, .any, .any, .any, .any, .any, .any, .any, .any, .any, .any, .any, .any, .any, .any, .any, .any, .any, .any, .any, .any, .any, .any, .any, .any, .any, .any, .any, .any, .any, .any, .any, .any, .any, .any, .any, .any, .any, .any], []⟩)) (fun v => (.normal, ⟨[.lit (.string d.1), .lit (.int .i64 d.2), .any, .any, .any, .any, .any, .any, .any, .any, .any, .any, .any, .any, .any, .any, .any, .any, .any, .any, .any, .any, .any, .any, .any, .any, .any, .any, .any, .any, .any, .any, .any, .any, .any, .any, .any, .any, .any, .any, .any, .any, .any, .any, .any, .any, .any, .any, .any, .any, .any, .any, .any, .any, .any, .any, .any, .any, .any, .any, .any, .any, .any, .any], []⟩))
noncomputable def num_Parse_M1_t {γ : Type} (s0 : ByteArray) (k : num_Parse_M1_R → Option γ) : Option γ := cond ((↑(ByteArray.size s0) : Int) == (3 : Int)) (outOf (hasPre1 s0 (bytesOf [39])) fun (x3 : Bool) => cond x3 (outOf (hasSuf1 s0 (bytesOf [39])) fun (x4 : Bool) => cond x4 (cond (decide ((0 : Int) ≤ (1 : Int) ∧ (1 : Int) < (↑(ByteArray.size s0) : Int))) (k (.inl ([IntKind.wrap IntKind.i64 (↑(UInt8.toNat (List.getD (Array.toList (ByteArray.data s0)) (1 : Nat) (UInt8.ofNat (nat_lit 0)))) : Int)], true))) (none)) (k (.inr ()))) (k (.inr ()))) (k (.inr ()))
noncomputable def num_Parse_M1 (s0 : ByteArray) : Option num_Parse_M1_R := num_Parse_M1_t s0 some
theorem num_Parse_M1_t_eq {γ : Type} (s0 : ByteArray) (k : num_Parse_M1_R → Option γ) : num_Parse_M1_t s0 k = outOf (num_Parse_M1 s0) k := by
  delta num_Parse_M1 num_Parse_M1_t; exact (Tr.nd (Tr.bd fun x3 => (Tr.nd (Tr.bd fun x4 => (Tr.nd (Tr.nd Tr.lf Tr.no) Tr.lf)) Tr.lf)) Tr.lf)
theorem num_Parse_M1_ev (α : Type) (d : num_Parse_M1_D) (k : Exit → St → Option α) : ev Tryd.prog NrCE2 num_Parse_h0 60 [0, 1, 1] ((codeAt (bodyOf Tryd.f17) [0, 1, 1]).getD .skip) ⟨mkS num_Parse_M1_A (num_Parse_M1_ofA d), mkH num_Parse_M1_H (num_Parse_M1_ofH d)⟩ (exitN 0 num_Parse_M1_X k) = outOf (num_Parse_M1 d.1) fun x => k (num_Parse_M1_fin d x).1 (num_Parse_M1_fin d x).2 := by
  obtain ⟨s0, s1⟩ := d
  exact (show _ = num_Parse_M1_t s0 (fun x => k (num_Parse_M1_fin (s0, s1) x).1 (num_Parse_M1_fin (s0, s1) x).2) from by kernel_rfl).trans (num_Parse_M1_t_eq s0 _)
noncomputable def num_Parse_M1_sp : CSpec := fun _ st k => reNorm 0 num_Parse_M1_N num_Parse_M1_A num_Parse_M1_H st fun a m => outOf (num_Parse_M1 (num_Parse_M1_to a m).1) fun v => sumOf v (fun v => k .ret ⟨[.any, .any, .any, .any, .sl (.int .i64) v.1 true, .lit (.bool v.2), .any, .any, .any, .any, .any, .any, .any, .any, .any, .any, .any, .any, .any, .any, .any, .any, .any, .any, .any, .any, .any, .any, .any, .any, .any, .any, .any, .any, .any, .any, .any, .any, .any, .any, .any, .any, .any, .any, .any, .any, .any, .any, .any, .any, .any, .any, .any, .any, .any, .any, .any, .any, .any, .any, .any, .any, .any, .any], []⟩) (fun v => k .normal ⟨[.lit (.string (num_Parse_M1_to a m).1), .lit (.int .i64 (num_Parse_M1_to a m).2), .any, .any, .any, .any, .any, .any, .any, .any, .any, .any, .any, .any, .any, .any, .any, .any, .any, .any, .any, .any, .any, .any, .any, .any, .any, .any, .any, .any, .any, .any, .any, .any, .any, .any, .any, .any, .any, .any, .any, .any, .any, .any, .any, .any, .any, .any, .any, .any, .any, .any, .any, .any, .any, .any, .any, .any, .any, .any, .any, .any, .any, .any], []⟩)
theorem num_Parse_M1_ok : SumOK Tryd.prog 0 ((codeAt (bodyOf Tryd.f17) [0, 1, 1]).getD .skip) num_Parse_M1_sp := (SumOK.once NrCE2_ok mixed num_Parse_h0_ok (show codeAt (bodyOf Tryd.f17) [0, 1, 1] = some ((codeAt (bodyOf Tryd.f17) [0, 1, 1]).getD .skip) from by kernel_rfl) (N := num_Parse_M1_N) (Nx := num_Parse_M1_X) (A := num_Parse_M1_A) (Hs := num_Parse_M1_H) (toD := num_Parse_M1_to) (ofA := num_Parse_M1_ofA) (ofH := num_Parse_M1_ofH) (fun _ _ => rfl) (fun _ _ => rfl) (M := fun d => num_Parse_M1 d.1) (fin := num_Parse_M1_fin) 60 num_Parse_M1_ev).mono fun α st k r h => by
  refine Eq.trans (congrArg (reNorm 0 num_Parse_M1_N num_Parse_M1_A num_Parse_M1_H st) ?_) h
  funext a m
  exact outOf_congr fun x => by rcases x with x | x <;> rfl
noncomputable def num_Parse_M1_h : Hints := num_Parse_h0.add [0, 1, 1] num_Parse_M1_sp
theorem num_Parse_M1_h_ok : num_Parse_M1_h.OK Tryd.prog (bodyOf Tryd.f17) := num_Parse_h0_ok.add (show codeAt (bodyOf Tryd.f17) [0, 1, 1] = some ((codeAt (bodyOf Tryd.f17) [0, 1, 1]).getD .skip) from by kernel_rfl) num_Parse_M1_ok
def num_Parse_M2_A : List SD := [.any, .any, .any, .any, .any, .any, .val .bool, .val .bool, .loc 0 0 0, .any, .any, .any, .any, .any, .any, .any, .any, .any, .any, .any, .any, .any, .any, .any, .any, .any, .any, .any, .any, .any, .any, .any, .any, .any, .any, .any, .any, .any, .any, .any, .any, .any, .any, .any, .any, .any, .any, .any, .any, .any, .any, .any, .any, .any, .any, .any, .any, .any, .any, .any, .any, .any, .any, .any]
def num_Parse_M2_H : List HD := [.box [.val (.int .i64), .val (.int .i64)]]
abbrev num_Parse_M2_D : Type := Bool × Bool × Int × Int
def num_Parse_M2_to (a : DenS num_Parse_M2_A) (m : DenH num_Parse_M2_H) : num_Parse_M2_D := (a.2.2.2.2.2.2.1, a.2.2.2.2.2.2.2.1, m.1.1, m.1.2.1)
def num_Parse_M2_ofA (d : num_Parse_M2_D) : DenS num_Parse_M2_A := match d with | (s6, s7, m0_0, m0_1) => ((), (), (), (), (), (), s6, s7, (), (), (), (), (), (), (), (), (), (), (), (), (), (), (), (), (), (), (), (), (), (), (), (), (), (), (), (), (), (), (), (), (), (), (), (), (), (), (), (), (), (), (), (), (), (), (), (), (), (), (), (), (), (), (), (), ())
def num_Parse_M2_ofH (d : num_Parse_M2_D) : DenH num_Parse_M2_H := match d with | (s6, s7, m0_0, m0_1) => ((m0_0, m0_1, ()), ())
def num_Parse_M2_N : Norm := (⟨[6, 7, 8], [], []⟩ : Go.TX.Norm)
def num_Parse_M2_X : Exit → Norm := fun e => match e with | .normal => ⟨[7, 8], [], []⟩ | _ => ⟨[], [], []⟩
abbrev num_Parse_M2_R : Type := (Int × Int)
def num_Parse_M2_fin (d : num_Parse_M2_D) (v : num_Parse_M2_R) : Exit × St := (.normal, ⟨[.any, .any, .any, .any, .any, .any, .any, .lit (.bool d.2.1), .ptr 0 0 0, .any, .any, .any, .any, .any, .any, .any, .any, .any, .any, .any, .any, .any, .any, .any, .any, .any, .any, .any, .any, .any, .any, .any, .any, .any, .any, .any, .any, .any, .any, .any, .any, .any, .any, .any, .any, .any, .any, .any, .any, .any, .any, .any, .any, .any, .any, .any, .any, .any, .any, .any, .any, .any, .any, .any], [.box [.lit (.int .i64 v.1), .lit (.int .i64 v.2)]]⟩)
noncomputable def num_Parse_M2_t {γ : Type} (s6 : Bool) (m0_0 : Int) (m0_1 : Int) (k : num_Parse_M2_R → Option γ) : Option γ := cond s6 (outOf (dbl_Neg m0_0 m0_1) fun (x21 : (Int × Int)) => k (Prod.fst x21, Prod.snd x21)) (k (m0_0, m0_1))
noncomputable def num_Parse_M2 (s6 : Bool) (m0_0 : Int) (m0_1 : Int) : Option num_Parse_M2_R := num_Parse_M2_t s6 m0_0 m0_1 some
theorem num_Parse_M2_t_eq {γ : Type} (s6 : Bool) (m0_0 : Int) (m0_1 : Int) (k : num_Parse_M2_R → Option γ) : num_Parse_M2_t s6 m0_0 m0_1 k = outOf (num_Parse_M2 s6 m0_0 m0_1) k := by
  delta num_Parse_M2 num_Parse_M2_t; exact (Tr.nd (Tr.bd fun x21 => Tr.lf) Tr.lf)
theorem num_Parse_M2_ev (α : Type) (d : num_Parse_M2_D) (k : Exit → St → Option α) : ev Tryd.prog NrCE2 num_Parse_M1_h 60 [0, 1, 1, 1, 1, 1, 1, 1, 1] ((codeAt (bodyOf Tryd.f17) [0, 1, 1, 1, 1, 1, 1, 1, 1]).getD .skip) ⟨mkS num_Parse_M2_A (num_Parse_M2_ofA d), mkH num_Parse_M2_H (num_Parse_M2_ofH d)⟩ (exitN 0 num_Parse_M2_X k) = outOf (num_Parse_M2 d.1 d.2.2.1 d.2.2.2) fun x => k (num_Parse_M2_fin d x).1 (num_Parse_M2_fin d x).2 := by
  obtain ⟨s6, s7, m0_0, m0_1⟩ := d
  exact (show _ = num_Parse_M2_t s6 m0_0 m0_1 (fun x => k (num_Parse_M2_fin (s6, s7, m0_0, m0_1) x).1 (num_Parse_M2_fin (s6, s7, m0_0, m0_1) x).2) from by kernel_rfl).trans (num_Parse_M2_t_eq s6 m0_0 m0_1 _)
noncomputable def num_Parse_M2_sp : CSpec := fun _ st k => reNorm 0 num_Parse_M2_N num_Parse_M2_A num_Parse_M2_H st fun a m => outOf (num_Parse_M2 (num_Parse_M2_to a m).1 (num_Parse_M2_to a m).2.2.1 (num_Parse_M2_to a m).2.2.2) fun v => k .normal ⟨[.any, .any, .any, .any, .any, .any, .any, .lit (.bool (num_Parse_M2_to a m).2.1), .ptr 0 0 0, .any, .any, .any, .any, .any, .any, .any, .any, .any, .any, .any, .any, .any, .any, .any, .any, .any, .any, .any, .any, .any, .any, .any, .any, .any, .any, .any, .any, .any, .any, .any, .any, .any, .any, .any, .any, .any, .any, .any, .any, .any, .any, .any, .any, .any, .any, .any, .any, .any, .any, .any, .any, .any, .any, .any], [.box [.lit (.int .i64 v.1), .lit (.int .i64 v.2)]]⟩
theorem num_Parse_M2_ok : SumOK Tryd.prog 0 ((codeAt (bodyOf Tryd.f17) [0, 1, 1, 1, 1, 1, 1, 1, 1]).getD .skip) num_Parse_M2_sp := (SumOK.once NrCE2_ok mixed num_Parse_M1_h_ok (show codeAt (bodyOf Tryd.f17) [0, 1, 1, 1, 1, 1, 1, 1, 1] = some ((codeAt (bodyOf Tryd.f17) [0, 1, 1, 1, 1, 1, 1, 1, 1]).getD .skip) from by kernel_rfl) (N := num_Parse_M2_N) (Nx := num_Parse_M2_X) (A := num_Parse_M2_A) (Hs := num_Parse_M2_H) (toD := num_Parse_M2_to) (ofA := num_Parse_M2_ofA) (ofH := num_Parse_M2_ofH) (fun _ _ => rfl) (fun _ _ => rfl) (M := fun d => num_Parse_M2 d.1 d.2.2.1 d.2.2.2) (fin := num_Parse_M2_fin) 60 num_Parse_M2_ev).mono fun α st k r h => by
  refine Eq.trans (congrArg (reNorm 0 num_Parse_M2_N num_Parse_M2_A num_Parse_M2_H st) ?_) h
  funext a m
  exact outOf_congr fun x => rfl
noncomputable def num_Parse_M2_h : Hints := num_Parse_M1_h.add [0, 1, 1, 1, 1, 1, 1, 1, 1] num_Parse_M2_sp
theorem num_Parse_M2_h_ok : num_Parse_M2_h.OK Tryd.prog (bodyOf Tryd.f17) := num_Parse_M1_h_ok.add (show codeAt (bodyOf Tryd.f17) [0, 1, 1, 1, 1, 1, 1, 1, 1] = some ((codeAt (bodyOf Tryd.f17) [0, 1, 1, 1, 1, 1, 1, 1, 1]).getD .skip) from by kernel_rfl) num_Parse_M2_ok
abbrev num_Parse_R : Type := ((List Int) × Bool)
noncomputable def num_Parse_t {γ : Type} (a0 : ByteArray) (a1 : Int) (k : num_Parse_R → Option γ) : Option γ := outOf (num_good a1) fun (x22 : Bool) => cond (!x22) (k ([], false)) (outOf (num_Parse_M1 a0) fun (x23 : List Int × Bool ⊕ Unit) => sumOf x23 (fun x24 => k (Prod.fst x24, Prod.snd x24)) (fun x25 => outOf (num_prefix a0 a1) fun (x26 : (ByteArray × Int)) => outOf (cutPre (Prod.fst x26) (bytesOf [45])) fun (x27 : (ByteArray × Bool)) => outOf (cutSuf (Prod.fst x27) (bytesOf [46])) fun (x28 : (ByteArray × Bool)) => outOf (num_digits (Prod.fst x28) (Prod.snd x26)) fun (x29 : (Int × (Int × Bool))) => cond (!Prod.snd (Prod.snd x29)) (k ([], false)) (outOf (num_Parse_M2 (Prod.snd x27) (Prod.fst x29) (Prod.fst (Prod.snd x29))) fun (x30 : (Int × Int)) => cond (Prod.snd x28) (k ([Prod.fst x30, Prod.snd x30], true)) (k ([Prod.fst x30], true)))))
noncomputable def num_Parse (a0 : ByteArray) (a1 : Int) : Option num_Parse_R := num_Parse_t a0 a1 some
theorem num_Parse_t_eq {γ : Type} (a0 : ByteArray) (a1 : Int) (k : num_Parse_R → Option γ) : num_Parse_t a0 a1 k = outOf (num_Parse a0 a1) k := by
  delta num_Parse num_Parse_t; exact (Tr.bd fun x22 => (Tr.nd Tr.lf (Tr.bd fun x23 => (Tr.cs (fun x24 => Tr.lf) (fun x25 => (Tr.bd fun x26 => (Tr.bd fun x27 => (Tr.bd fun x28 => (Tr.bd fun x29 => (Tr.nd Tr.lf (Tr.bd fun x30 => (Tr.nd Tr.lf Tr.lf))))))))))))
noncomputable def num_Parse_sp : TX.Spec := specD [.val .str, .val (.int .i64)] [] fun _ a m k => match a, m with | ⟨a0, a1, _⟩, _ => outOf (num_Parse a0 a1) fun v => k (.tup [.sl (.int .i64) v.1 true, .lit (.bool v.2)]) []
theorem num_Parse_ev {α : Type} (a0 : ByteArray) (a1 : Int) (k : Kont α) : evFun Tryd.prog NrCE2 (num_Parse_M2_h) false Tryd.f17 (bodyOf Tryd.f17) 60 (mkS [.val .str, .val (.int .i64)] (a0, a1, ())) (mkH [] ()) k = outOf (num_Parse a0 a1) fun v => k (.tup [.sl (.int .i64) v.1 true, .lit (.bool v.2)]) [] :=
  (show _ = num_Parse_t a0 a1 (fun v => k (.tup [.sl (.int .i64) v.1 true, .lit (.bool v.2)]) []) from by kernel_rfl).trans (num_Parse_t_eq a0 a1 _)
theorem num_Parse_good : TX.Good Tryd.prog 17 num_Parse_sp := good_form NrCE2_ok mixed Tryd.func17 (body_of rfl) (by kernel_rfl) false fun α a m k r h => by
  obtain ⟨a0, a1, _⟩ := a; obtain _ := m
  exact ⟨num_Parse_M2_h, 60, num_Parse_M2_h_ok, rfl, (num_Parse_ev a0 a1 k).trans h⟩
/-! f48 strconv.FormatUint -/
def fmtUint_h0 : Hints := Hints.nil 0
theorem fmtUint_h0_ok : fmtUint_h0.OK Tryd.prog (bodyOf Tryd.f48) := Hints.nil_ok
abbrev fmtUint_R : Type := (ByteArray)
noncomputable def fmtUint_t {γ : Type} (a0 : Int) (a1 : Int) (k : fmtUint_R → Option γ) : Option γ := outOf (fmtUint0 a0 a1) fun (x1 : ByteArray) => k (x1)
noncomputable def fmtUint (a0 : Int) (a1 : Int) : Option fmtUint_R := fmtUint_t a0 a1 some
theorem fmtUint_t_eq {γ : Type} (a0 : Int) (a1 : Int) (k : fmtUint_R → Option γ) : fmtUint_t a0 a1 k = outOf (fmtUint a0 a1) k := by
  delta fmtUint fmtUint_t; exact (Tr.bd fun x1 => Tr.lf)
noncomputable def fmtUint_sp : TX.Spec := specD [.val (.int .u64), .val (.int .i64)] [] fun _ a m k => match a, m with | ⟨a0, a1, _⟩, _ => outOf (fmtUint a0 a1) fun v => k (.lit (.string v)) []
theorem fmtUint_ev {α : Type} (a0 : Int) (a1 : Int) (k : Kont α) : evFun Tryd.prog NrCE2 (fmtUint_h0) false Tryd.f48 (bodyOf Tryd.f48) 60 (mkS [.val (.int .u64), .val (.int .i64)] (a0, a1, ())) (mkH [] ()) k = outOf (fmtUint a0 a1) fun v => k (.lit (.string v)) [] :=
  (show _ = fmtUint_t a0 a1 (fun v => k (.lit (.string v)) []) from by kernel_rfl).trans (fmtUint_t_eq a0 a1 _)
theorem fmtUint_good : TX.Good Tryd.prog 48 fmtUint_sp := good_form NrCE2_ok mixed Tryd.func48 (body_of rfl) (by kernel_rfl) false fun α a m k r h => by
  obtain ⟨a0, a1, _⟩ := a; obtain _ := m
  exact ⟨fmtUint_h0, 60, fmtUint_h0_ok, rfl, (fmtUint_ev a0 a1 k).trans h⟩
/-! f56 strconv.FormatInt -/
def fmtInt_h0 : Hints := Hints.nil 0
theorem fmtInt_h0_ok : fmtInt_h0.OK Tryd.prog (bodyOf Tryd.f56) := Hints.nil_ok
abbrev fmtInt_R : Type := (ByteArray)
noncomputable def fmtInt_t {γ : Type} (a0 : Int) (a1 : Int) (k : fmtInt_R → Option γ) : Option γ := outOf (fmtInt0 a0 a1) fun (x1 : ByteArray) => k (x1)
noncomputable def fmtInt (a0 : Int) (a1 : Int) : Option fmtInt_R := fmtInt_t a0 a1 some
theorem fmtInt_t_eq {γ : Type} (a0 : Int) (a1 : Int) (k : fmtInt_R → Option γ) : fmtInt_t a0 a1 k = outOf (fmtInt a0 a1) k := by
  delta fmtInt fmtInt_t; exact (Tr.bd fun x1 => Tr.lf)
noncomputable def fmtInt_sp : TX.Spec := specD [.val (.int .i64), .val (.int .i64)] [] fun _ a m k => match a, m with | ⟨a0, a1, _⟩, _ => outOf (fmtInt a0 a1) fun v => k (.lit (.string v)) []
theorem fmtInt_ev {α : Type} (a0 : Int) (a1 : Int) (k : Kont α) : evFun Tryd.prog NrCE2 (fmtInt_h0) false Tryd.f56 (bodyOf Tryd.f56) 60 (mkS [.val (.int .i64), .val (.int .i64)] (a0, a1, ())) (mkH [] ()) k = outOf (fmtInt a0 a1) fun v => k (.lit (.string v)) [] :=
  (show _ = fmtInt_t a0 a1 (fun v => k (.lit (.string v)) []) from by kernel_rfl).trans (fmtInt_t_eq a0 a1 _)
theorem fmtInt_good : TX.Good Tryd.prog 56 fmtInt_sp := good_form NrCE2_ok mixed Tryd.func56 (body_of rfl) (by kernel_rfl) false fun α a m k r h => by
  obtain ⟨a0, a1, _⟩ := a; obtain _ := m
  exact ⟨fmtInt_h0, 60, fmtInt_h0_ok, rfl, (fmtInt_ev a0 a1 k).trans h⟩
noncomputable def NrCE3 : Env := NrCE2.add 17 true num_Parse_sp |>.add 48 true fmtUint_sp |>.add 56 true fmtInt_sp
theorem NrCE3_ok : NrCE3.OK Tryd.prog := (((NrCE2_ok).add_ok num_Parse_good).add_ok fmtUint_good).add_ok fmtInt_good
/-! f18 tenterhook/num.Sign -/
def num_Sign_h0 : Hints := Hints.nil 0
theorem num_Sign_h0_ok : num_Sign_h0.OK Tryd.prog (bodyOf Tryd.f18) := Hints.nil_ok
def num_Sign_M1_A : List SD := [.val (.int .i64), .any, .any, .any, .any, .any, .any, .any, .any, .any, .any, .any]
def num_Sign_M1_H : List HD := []
abbrev num_Sign_M1_D : Type := Int
def num_Sign_M1_to (a : DenS num_Sign_M1_A) (m : DenH num_Sign_M1_H) : num_Sign_M1_D := (a.1)
def num_Sign_M1_ofA (d : num_Sign_M1_D) : DenS num_Sign_M1_A := match d with | (s0) => (s0, (), (), (), (), (), (), (), (), (), (), (), ())
def num_Sign_M1_ofH (d : num_Sign_M1_D) : DenH num_Sign_M1_H := match d with | (s0) => ()
def num_Sign_M1_N : Norm := (⟨[0], [], []⟩ : Go.TX.Norm)
def num_Sign_M1_X : Exit → Norm := fun e => match e with | .normal => ⟨[0], [], []⟩ | .ret => ⟨[2], [], []⟩ | _ => ⟨[], [], []⟩
abbrev num_Sign_M1_R : Type := ((ByteArray) ⊕ (Unit))
def num_Sign_M1_fin (d : num_Sign_M1_D) (v : num_Sign_M1_R) : Exit × St := sumOf v (fun v => (.ret, ⟨[.any, .any, .lit (.string v), .any, .any, .any, .any, .any, .any, .any, .any, .any], []⟩)) (fun v => (.normal, ⟨[.lit (.int .i64 d), .any, .any, .any, .any, .any, .any, .any, .any, .any, .any, .any], []⟩))
noncomputable def num_Sign_M1_t {γ : Type} (s0 : Int) (k : num_Sign_M1_R → Option γ) : Option γ := cond (decide (s0 < (0 : Int))) (k (.inl (bytesOf []))) (cond (decide (s0 ≥ (36 : Int))) (k (.inl (bytesOf []))) (k (.inr ())))
noncomputable def num_Sign_M1 (s0 : Int) : Option num_Sign_M1_R := num_Sign_M1_t s0 some
theorem num_Sign_M1_t_eq {γ : Type} (s0 : Int) (k : num_Sign_M1_R → Option γ) : num_Sign_M1_t s0 k = outOf (num_Sign_M1 s0) k := by
  delta num_Sign_M1 num_Sign_M1_t; exact (Tr.nd Tr.lf (Tr.nd Tr.lf Tr.lf))
theorem num_Sign_M1_ev (α : Type) (d : num_Sign_M1_D) (k : Exit → St → Option α) : ev Tryd.prog NrCE3 num_Sign_h0 60 [0, 1] ((codeAt (bodyOf Tryd.f18) [0, 1]).getD .skip) ⟨mkS num_Sign_M1_A (num_Sign_M1_ofA d), mkH num_Sign_M1_H (num_Sign_M1_ofH d)⟩ (exitN 0 num_Sign_M1_X k) = outOf (num_Sign_M1 d) fun x => k (num_Sign_M1_fin d x).1 (num_Sign_M1_fin d x).2 := by
  revert d; intro s0
  exact (show _ = num_Sign_M1_t s0 (fun x => k (num_Sign_M1_fin (s0) x).1 (num_Sign_M1_fin (s0) x).2) from by kernel_rfl).trans (num_Sign_M1_t_eq s0 _)
noncomputable def num_Sign_M1_sp : CSpec := fun _ st k => reNorm 0 num_Sign_M1_N num_Sign_M1_A num_Sign_M1_H st fun a m => outOf (num_Sign_M1 (num_Sign_M1_to a m)) fun v => sumOf v (fun v => k .ret ⟨[.any, .any, .lit (.string v), .any, .any, .any, .any, .any, .any, .any, .any, .any], []⟩) (fun v => k .normal ⟨[.lit (.int .i64 (num_Sign_M1_to a m)), .any, .any, .any, .any, .any, .any, .any, .any, .any, .any, .any], []⟩)
theorem num_Sign_M1_ok : SumOK Tryd.prog 0 ((codeAt (bodyOf Tryd.f18) [0, 1]).getD .skip) num_Sign_M1_sp := (SumOK.once NrCE3_ok mixed num_Sign_h0_ok (show codeAt (bodyOf Tryd.f18) [0, 1] = some ((codeAt (bodyOf Tryd.f18) [0, 1]).getD .skip) from by kernel_rfl) (N := num_Sign_M1_N) (Nx := num_Sign_M1_X) (A := num_Sign_M1_A) (Hs := num_Sign_M1_H) (toD := num_Sign_M1_to) (ofA := num_Sign_M1_ofA) (ofH := num_Sign_M1_ofH) (fun _ _ => rfl) (fun _ _ => rfl) (M := fun d => num_Sign_M1 d) (fin := num_Sign_M1_fin) 60 num_Sign_M1_ev).mono fun α st k r h => by
  refine Eq.trans (congrArg (reNorm 0 num_Sign_M1_N num_Sign_M1_A num_Sign_M1_H st) ?_) h
  funext a m
  exact outOf_congr fun x => by rcases x with x | x <;> rfl
noncomputable def num_Sign_M1_h : Hints := num_Sign_h0.add [0, 1] num_Sign_M1_sp
theorem num_Sign_M1_h_ok : num_Sign_M1_h.OK Tryd.prog (bodyOf Tryd.f18) := num_Sign_h0_ok.add (show codeAt (bodyOf Tryd.f18) [0, 1] = some ((codeAt (bodyOf Tryd.f18) [0, 1]).getD .skip) from by kernel_rfl) num_Sign_M1_ok
abbrev num_Sign_R : Type := (ByteArray)
noncomputable def num_Sign_t {γ : Type} (a0 : Int) (k : num_Sign_R → Option γ) : Option γ := outOf (num_Sign_M1 a0) fun (x1 : ByteArray ⊕ Unit) => sumOf x1 (fun x2 => k (x2)) (fun x3 => outOf (fmtInt a0 (36 : Int)) fun (x4 : ByteArray) => cond (ascii x4 && decide (ByteArray.size x4 ≤ (140737488355328 : Nat))) (k (upperS x4)) (none))
noncomputable def num_Sign (a0 : Int) : Option num_Sign_R := num_Sign_t a0 some
theorem num_Sign_t_eq {γ : Type} (a0 : Int) (k : num_Sign_R → Option γ) : num_Sign_t a0 k = outOf (num_Sign a0) k := by
  delta num_Sign num_Sign_t; exact (Tr.bd fun x1 => (Tr.cs (fun x2 => Tr.lf) (fun x3 => (Tr.bd fun x4 => (Tr.nd Tr.lf Tr.no)))))
noncomputable def num_Sign_sp : TX.Spec := specD [.val (.int .i64)] [] fun _ a m k => match a, m with | ⟨a0, _⟩, _ => outOf (num_Sign a0) fun v => k (.lit (.string v)) []
theorem num_Sign_ev {α : Type} (a0 : Int) (k : Kont α) : evFun Tryd.prog NrCE3 (num_Sign_M1_h) false Tryd.f18 (bodyOf Tryd.f18) 60 (mkS [.val (.int .i64)] (a0, ())) (mkH [] ()) k = outOf (num_Sign a0) fun v => k (.lit (.string v)) [] :=
  (show _ = num_Sign_t a0 (fun v => k (.lit (.string v)) []) from by kernel_rfl).trans (num_Sign_t_eq a0 _)
theorem num_Sign_good : TX.Good Tryd.prog 18 num_Sign_sp := good_form NrCE3_ok mixed Tryd.func18 (body_of rfl) (by kernel_rfl) false fun α a m k r h => by
  obtain ⟨a0, _⟩ := a; obtain _ := m
  exact ⟨num_Sign_M1_h, 60, num_Sign_M1_h_ok, rfl, (num_Sign_ev a0 k).trans h⟩
/-! f15 tenterhook/num.UText -/
def num_UText_h0 : Hints := Hints.nil 0
theorem num_UText_h0_ok : num_UText_h0.OK Tryd.prog (bodyOf Tryd.f15) := Hints.nil_ok
abbrev num_UText_R : Type := (ByteArray)
noncomputable def num_UText_t {γ : Type} (a0 : Int) (a1 : Int) (k : num_UText_R → Option γ) : Option γ := outOf (num_good a1) fun (x1 : Bool) => cond (!x1) (k (bytesOf [])) (outOf (fmtUint (IntKind.wrap IntKind.u64 a0) a1) fun (x2 : ByteArray) => cond (ascii x2 && decide (ByteArray.size x2 ≤ (140737488355328 : Nat))) (k (upperS x2)) (none))
noncomputable def num_UText (a0 : Int) (a1 : Int) : Option num_UText_R := num_UText_t a0 a1 some
theorem num_UText_t_eq {γ : Type} (a0 : Int) (a1 : Int) (k : num_UText_R → Option γ) : num_UText_t a0 a1 k = outOf (num_UText a0 a1) k := by
  delta num_UText num_UText_t; exact (Tr.bd fun x1 => (Tr.nd Tr.lf (Tr.bd fun x2 => (Tr.nd Tr.lf Tr.no))))
noncomputable def num_UText_sp : TX.Spec := specD [.val (.int .i64), .val (.int .i64)] [] fun _ a m k => match a, m with | ⟨a0, a1, _⟩, _ => outOf (num_UText a0 a1) fun v => k (.lit (.string v)) []
theorem num_UText_ev {α : Type} (a0 : Int) (a1 : Int) (k : Kont α) : evFun Tryd.prog NrCE3 (num_UText_h0) false Tryd.f15 (bodyOf Tryd.f15) 60 (mkS [.val (.int .i64), .val (.int .i64)] (a0, a1, ())) (mkH [] ()) k = outOf (num_UText a0 a1) fun v => k (.lit (.string v)) [] :=
  (show _ = num_UText_t a0 a1 (fun v => k (.lit (.string v)) []) from by kernel_rfl).trans (num_UText_t_eq a0 a1 _)
theorem num_UText_good : TX.Good Tryd.prog 15 num_UText_sp := good_form NrCE3_ok mixed Tryd.func15 (body_of rfl) (by kernel_rfl) false fun α a m k r h => by
  obtain ⟨a0, a1, _⟩ := a; obtain _ := m
  exact ⟨num_UText_h0, 60, num_UText_h0_ok, rfl, (num_UText_ev a0 a1 k).trans h⟩
/-! f23 tenterhook/num.Text -/
def num_Text_h0 : Hints := Hints.nil 0
theorem num_Text_h0_ok : num_Text_h0.OK Tryd.prog (bodyOf Tryd.f23) := Hints.nil_ok
abbrev num_Text_R : Type := (ByteArray)
noncomputable def num_Text_t {γ : Type} (a0 : Int) (a1 : Int) (k : num_Text_R → Option γ) : Option γ := outOf (num_good a1) fun (x1 : Bool) => cond (!x1) (k (bytesOf [])) (outOf (fmtInt a0 a1) fun (x2 : ByteArray) => cond (ascii x2 && decide (ByteArray.size x2 ≤ (140737488355328 : Nat))) (k (upperS x2)) (none))
noncomputable def num_Text (a0 : Int) (a1 : Int) : Option num_Text_R := num_Text_t a0 a1 some
theorem num_Text_t_eq {γ : Type} (a0 : Int) (a1 : Int) (k : num_Text_R → Option γ) : num_Text_t a0 a1 k = outOf (num_Text a0 a1) k := by
  delta num_Text num_Text_t; exact (Tr.bd fun x1 => (Tr.nd Tr.lf (Tr.bd fun x2 => (Tr.nd Tr.lf Tr.no))))
noncomputable def num_Text_sp : TX.Spec := specD [.val (.int .i64), .val (.int .i64)] [] fun _ a m k => match a, m with | ⟨a0, a1, _⟩, _ => outOf (num_Text a0 a1) fun v => k (.lit (.string v)) []
theorem num_Text_ev {α : Type} (a0 : Int) (a1 : Int) (k : Kont α) : evFun Tryd.prog NrCE3 (num_Text_h0) false Tryd.f23 (bodyOf Tryd.f23) 60 (mkS [.val (.int .i64), .val (.int .i64)] (a0, a1, ())) (mkH [] ()) k = outOf (num_Text a0 a1) fun v => k (.lit (.string v)) [] :=
  (show _ = num_Text_t a0 a1 (fun v => k (.lit (.string v)) []) from by kernel_rfl).trans (num_Text_t_eq a0 a1 _)
theorem num_Text_good : TX.Good Tryd.prog 23 num_Text_sp := good_form NrCE3_ok mixed Tryd.func23 (body_of rfl) (by kernel_rfl) false fun α a m k r h => by
  obtain ⟨a0, a1, _⟩ := a; obtain _ := m
  exact ⟨num_Text_h0, 60, num_Text_h0_ok, rfl, (num_Text_ev a0 a1 k).trans h⟩
noncomputable def NrCE4 : Env := NrCE3.add 18 true num_Sign_sp |>.add 15 true num_UText_sp |>.add 23 true num_Text_sp
theorem NrCE4_ok : NrCE4.OK Tryd.prog := (((NrCE3_ok).add_ok num_Sign_good).add_ok num_UText_good).add_ok num_Text_good
end Go.Proofs.Dbl
