/- PicSteps: the law's row, and its card. -/
import Derived.Test.YtfmdhcialeddaaaDoorNuR
import Derived.Test.YtfmdhcialeddaaaDoorCards
import Derived.Test.YtfmdhcialeddaaaDoorTie
import Derived.LaidMore
import Derived.Lay
import Derived.SevenTiedAt
namespace Go.Proofs.YtfmdhcialeddaaaDoor
open Go Go.TX Go.Proofs Go.Proofs.Dbl
set_option maxRecDepth 100000
set_option maxHeartbeats 0
theorem laid_glob {W : World} (h : laidMetH Tryd.prog Rows.picStepsRow.laid W) : Glob (inC W) := fun g t ht => by
  have h8 := table_of_laid (P := Tryd.prog) h (n := "math/bits.deBruijn64tab") (k := .u8) (l := tabTz) (g := 8) (t := 155) (e := 5) (m := 64) (.tail _ (.head _)) (by kernel_rfl) (by kernel_rfl) (by kernel_rfl) (by kernel_rfl) (by kernel_rfl)
  have h3 := table_of_laid (P := Tryd.prog) h (n := "internal/strconv.uint64pow10") (k := .u64) (l := tabTen) (g := 3) (t := 131) (e := 63) (m := 20) (.tail _ (.tail _ (.head _))) (by kernel_rfl) (by kernel_rfl) (by kernel_rfl) (by kernel_rfl) (by kernel_rfl)
  have ht' : cond (Nat.beq g 8) (some (⟨.int .u8, tabTz⟩ : (s : Sh) × List s.Den)) (cond (Nat.beq g 3) (some ⟨.int .u64, tabTen⟩) none) = some t := ht
  cases e8 : Nat.beq g 8 with
  | true =>
    rw [e8] at ht'
    obtain rfl := Nat.eq_of_beq_eq_true e8
    simp only [cond_true, Option.some.injEq] at ht'
    subst ht'
    exact ⟨h8.1, by simp [tabTz], h8.2⟩
  | false =>
    rw [e8] at ht'
    cases e3 : Nat.beq g 3 with
    | true =>
      rw [e3] at ht'
      obtain rfl := Nat.eq_of_beq_eq_true e3
      simp only [cond_true, cond_false, Option.some.injEq] at ht'
      subst ht'
      exact ⟨h3.1, by simp [tabTen], h3.2⟩
    | false => rw [e3] at ht'; cases ht'
theorem picSteps_plain : ∀ d : DenL [.sl (.int .u8), .int .i64, .pair (.int .i64) (.int .i64)], FitsL reachBytes [.sl (.int .u8), .int .i64, .pair (.int .i64) (.int .i64)] d →
    lawPSteps_sp (AV × Heap) (argsAV Tryd.prog Tryd.f11.params.toList [.sl (.int .u8), .int .i64, .pair (.int .i64) (.int .i64)] d) [] (fun v H => some (v, H)) = some (.lit (.bool true), []) := by
  rintro ⟨m, u, ⟨lo, hi⟩, _⟩ ⟨hm, hu, ⟨h1, h2⟩, _⟩
  have hb : Bytes m := fun x hx => by
    have h : (0 : Int) ≤ x ∧ x ≤ 255 := hm.2 x hx
    omega
  have h : lawPSteps m u lo hi = some true := psteps_eq hb hu h1 h2
  have e : lawPSteps_sp (AV × Heap) (argsAV Tryd.prog Tryd.f11.params.toList [.sl (.int .u8), .int .i64, .pair (.int .i64) (.int .i64)] (m, u, (lo, hi), ())) [] (fun v H => some (v, H)) = outOf (lawPSteps m u lo hi) fun v => some (.lit (.bool v), []) := by kernel_rfl
  rw [e, h]
  rfl
theorem picSteps_run : ∀ d : DenL [.sl (.int .u8), .int .i64, .pair (.int .i64) (.int .i64)], FitsL reachBytes [.sl (.int .u8), .int .i64, .pair (.int .i64) (.int .i64)] d →
    ∃ sp, TX.Good Tryd.prog 11 sp ∧ ∃ H', sp (AV × Heap) (argsAV Tryd.prog Tryd.f11.params.toList [.sl (.int .u8), .int .i64, .pair (.int .i64) (.int .i64)] d) [] (fun v H => some (v, H)) = some (.lit (.bool true), H') := by
  intro d hd
  exact ⟨lawPSteps_sp, lawPSteps_good, [], picSteps_plain d hd⟩
theorem picSteps_lifted (os : Os) (started : os.Started) (H : Type) (enc : TypeId × Value → H) :
    ReturnsInHanded {} Tryd.checked os 11 .any (fun w args => (Rows.picStepsSpec.pre enc Tryd.prog Tryd.f11 [] false w args ∧ laidMetH Tryd.prog Rows.picStepsRow.laid w) ∧ sizedMet enc Tryd.prog Tryd.f11 (OpenSpec.ofChange Rows.picStepsSpec) false w args)
      (Rows.picStepsSpec.post enc Tryd.prog Tryd.f11 false true false false) :=
  law_lifted_laid (C := Tryd.checked) (fn := Tryd.f11) (code := bodyOf Tryd.f11) (tb := 4) (B := reachBytes) (laid := Rows.picStepsRow.laid) (by kernel_rfl) started (by kernel_rfl) Tryd.func11 (body_of rfl) (by kernel_rfl)
    (ChangeSpec.witness_shaped (enc := enc) (C := Tryd.checked) (os := os) (X := fun w _ => laidMetH Tryd.prog Rows.picStepsRow.laid w) false (World.laidAll Tryd.prog os Rows.picStepsRow.laid) #[.slice none 0 0, .int .i64 0, .agg #[.int .i64 0, .int .i64 0]] 8 (World.laidAll_os _ _ _)
      (World.shaped_of_ZipB (by kernel_rfl) (by kernel_rfl)) (by kernel_rfl) (by kernel_rfl) (by kernel_rfl)
      (by rw [MakeChecks.laidMetH_plain _ _ _ (by kernel_rfl)]; exact laidMet_laidAll _ (by kernel_rfl) (by kernel_rfl)))
    (by kernel_rfl) (by kernel_rfl) (by kernel_rfl) (shs := [.sl (.int .u8), .int .i64, .pair (.int .i64) (.int .i64)]) (by kernel_rfl) (by kernel_rfl) (by kernel_rfl) rfl
    (fun ds hd => match ds, hd with | [_, _, _], _ => rfl) (meas_said Tryd.prog H) picSteps_run (fun _ h => laid_glob h)
theorem picSteps_holds : Rows.PicStepsSaid :=
  OpenClaim.holds_of_wide 11 Tryd.f11 rfl rfl rfl rfl rfl rfl rfl ⟨rfl, rfl, rfl, rfl, rfl⟩ rfl rfl rfl rfl rfl (by kernel_rfl) Tryd.func11 (by kernel_rfl)
    (of_decide_eq_true (by kernel_rfl)) (by unfold Func.isWrapper; first | (rw [if_pos (by decide +kernel)]; kernel_rfl) | (rw [if_neg (by decide +kernel)]; exact ⟨rfl, rfl⟩))
    (fun os started H enc _ => picSteps_lifted os started H enc)
theorem picSteps_card : Rows.PicStepsCardSaid :=
  Claim7.holds_tied_plain_at .later [] [.data, .data, .data, .data, .pinned, .pinned] true (true, "23ed661a2948ac9622ace846ac2603e579c0d9076b35c08d2257b5a814cd10d1") false picSteps_holds (fun _ h => by cases h) (by kernel_rfl) (fun _ h => by cases h) picSteps_row_tie rfl ⟨rfl, rfl⟩ (by kernel_rfl) rfl
    (fun f fn hf hfn => by
      obtain rfl : f = 11 := Option.some.inj ((show Tryd.prog.funcNamed "tenterhook/tenterhooklaw10.PicSteps" = some 11 by kernel_rfl).symm.trans hf) |>.symm
      obtain rfl : fn = Tryd.f11 := (Option.some.inj (Tryd.func11.symm.trans hfn)).symm
      exact ⟨by kernel_rfl, fun j t ht => by
        rw [Tryd.params11] at ht
        have hm : t ∈ [29, 3, 35] := by simpa using Array.mem_of_getElem? ht
        have hall : ([29, 3, 35].all fun u => !Tryd.prog.wantsStandIn u) = true := by kernel_rfl
        exact (show Tryd.prog.wantsStandIn t = false by simpa using List.all_eq_true.1 hall t hm)⟩)
    (by kernel_rfl)
#print axioms picSteps_card
end Go.Proofs.YtfmdhcialeddaaaDoor
