/- DblIs: for every input the law answers true and leaves its arguments as they were. -/
import Derived.Test.YtnopacpjimllhaaDbXI
import Derived.Test.YtnopacpjimllhaaDbPu
import Derived.Test.YtnopacpjimllhaaRows
import Derived.Test.YtnopacpjimllhaaTxS
namespace Go.Proofs.Ytnopacpjimllhaa
open Go Go.TX Go.Proofs Go.Proofs.Dbl
set_option maxRecDepth 100000
set_option maxHeartbeats 0
set_option linter.unusedVariables false

theorem Neg_S {lo hi : Int} (h1 : Cell lo) (h2 : Cell hi) : dbl_Neg lo hi = some (Pd (-S lo hi)) := by
  have e := Pd_S h1 h2
  unfold Pd at e
  simp only [Prod.mk.injEq] at e
  have hn := Neg_eq (S lo hi)
  rw [e.1, e.2] at hn
  exact hn

theorem rAdd_S {a b c d : Int} (ha : Cell a) (hb : Cell b) (hc : Cell c) (hd : Cell d) : ref_Add a b c d = some (Pd (S a b + S c d)) := by
  have h := rAdd (S a b) (S c d)
  have e1 := Pd_S ha hb
  have e2 := Pd_S hc hd
  unfold Pd at e1 e2
  simp only [Prod.mk.injEq] at e1 e2
  rw [e1.1, e1.2, e2.1, e2.2] at h
  exact h

theorem is_val {a0 a1 b0 b1 n m : Int} (ha0 : Cell a0) (ha1 : Cell a1) (hb0 : Cell b0) (hb1 : Cell b1) (hn : Cell n) (hm : Cell m) : lawIs a0 a1 b0 b1 n m = some true := by
  unfold lawIs lawIs_t
  rw [awake2_eq, rOf hn, Of_eq hn, Add_S ha0 ha1 hb0 hb1, rAdd_S ha0 ha1 hb0 hb1, Neg_S ha0 ha1, neg_of ha0 ha1, Cmp_eq ha0 ha1 hb0 hb1, rCmp ha0 ha1 hb0 hb1, rUMul hn, UMul_eq, Mul_eq hn hm, rMul hn hm]
  simp

theorem dblIs_plain : ∀ d : DenL [.pair (.int .i64) (.int .i64), .pair (.int .i64) (.int .i64), .int .i64, .int .i64], FitsL reachBytes [.pair (.int .i64) (.int .i64), .pair (.int .i64) (.int .i64), .int .i64, .int .i64] d →
    lawIs_sp (AV × Heap) (argsAV Try.prog Try.f8.params.toList [.pair (.int .i64) (.int .i64), .pair (.int .i64) (.int .i64), .int .i64, .int .i64] d) [] (fun v H => some (v, H)) = some (.lit (.bool true), []) := by
  rintro ⟨⟨a0, a1⟩, ⟨b0, b1⟩, n, m, _⟩ ⟨⟨ha0, ha1⟩, ⟨hb0, hb1⟩, hn, hm, _⟩
  show outOf (lawIs a0 a1 b0 b1 n m) (fun v => some (AV.lit (.bool v), [])) = _
  rw [is_val ha0 ha1 hb0 hb1 hn hm]
  rfl

theorem dblIs_run : ∀ d : DenL [.pair (.int .i64) (.int .i64), .pair (.int .i64) (.int .i64), .int .i64, .int .i64], FitsL reachBytes [.pair (.int .i64) (.int .i64), .pair (.int .i64) (.int .i64), .int .i64, .int .i64] d →
    ∃ sp, TX.Good Try.prog 8 sp ∧ ∃ H', sp (AV × Heap) (argsAV Try.prog Try.f8.params.toList [.pair (.int .i64) (.int .i64), .pair (.int .i64) (.int .i64), .int .i64, .int .i64] d) [] (fun v H => some (v, H)) = some (.lit (.bool true), H') := by
  intro d hd
  exact ⟨lawIs_sp, lawIs_good, [], dblIs_plain d hd⟩

theorem dblIs_lifted (os : Os) (started : os.Started) (H : Type) (enc : TypeId × Value → H) :
    ReturnsInHanded {} Try.checked os 8 .any (Rows.dblIsSpec.pre6 enc Try.prog Try.f8 [] false) (Rows.dblIsSpec.post enc Try.prog Try.f8 false true false false) :=
  law_lifted (C := Try.checked) (fn := Try.f8) (code := bodyOf Try.f8) (tb := 4) (B := reachBytes) (by kernel_rfl) started (by kernel_rfl) Try.func8 (body_of rfl) (by kernel_rfl)
    (ChangeSpec.witness6 (enc := enc) (C := Try.checked) false ⟨#[], #[.agg #[.int .i64 0, .int .i64 0], .agg #[.int .i64 0, .int .i64 0], .int .i64 0, .int .i64 0], []⟩ 8 (by kernel_rfl) (by kernel_rfl) (by kernel_rfl) (by kernel_rfl))
    (by kernel_rfl) (by kernel_rfl) (by kernel_rfl) (shs := [.pair (.int .i64) (.int .i64), .pair (.int .i64) (.int .i64), .int .i64, .int .i64]) (by kernel_rfl) (by kernel_rfl) (by kernel_rfl) rfl
    (fun ds hd => match ds, hd with | [_, _, _, _], _ => rfl) (meas_said Try.prog H) dblIs_run

theorem dblIs_holds : Rows.DblIsSaid :=
  OpenClaim.holds_of_wide 8 Try.f8 rfl rfl rfl rfl rfl rfl rfl ⟨rfl, rfl, rfl, rfl, rfl⟩ rfl rfl rfl rfl rfl (by kernel_rfl) Try.func8 (by kernel_rfl)
    (of_decide_eq_true (by kernel_rfl)) (by unfold Func.isWrapper; rw [if_neg (by decide +kernel)]; exact ⟨rfl, rfl⟩)
    (fun os started H enc _ => dblIs_lifted os started H enc)

#print axioms dblIs_holds
end Go.Proofs.Ytnopacpjimllhaa
