/- StepEnters: the law's row, and its card. -/
import Derived.Test.YtgchjlbhmfbgaaaGreatDoorSuR
import Derived.Test.YtgchjlbhmfbgaaaGreatDoorSuStepEntersF
import Derived.Test.YtgchjlbhmfbgaaaGreatDoorSuStepEntersG
import Derived.Test.YtgchjlbhmfbgaaaGreatDoorCards
import Derived.Test.YtgchjlbhmfbgaaaGreatDoorTie
import Derived.LaidMore
import Derived.Lay
import Derived.SevenTiedAt
namespace Go.Proofs.YtgchjlbhmfbgaaaGreatDoor
open Go Go.TX Go.Proofs Go.Proofs.Dbl
set_option maxRecDepth 100000
set_option maxHeartbeats 0
theorem laid_glob {W : World} (h : laidMetH Tryz.prog Rows.stepEntersRow.laid W) : Glob (inC W) := fun g t ht => by
 have h8 := table_of_laid (P := Tryz.prog) h (n := "math/bits.deBruijn64tab") (k := .u8) (l := tabTz) (g := 8) (t := 350) (e := 5) (m := 64) (.tail _ (.head _)) (by kernel_rfl) (by kernel_rfl) (by kernel_rfl) (by kernel_rfl) (by kernel_rfl)
 have h3 := table_of_laid (P := Tryz.prog) h (n := "internal/strconv.uint64pow10") (k := .u64) (l := tabTen) (g := 4) (t := 324) (e := 221) (m := 20) (.tail _ (.tail _ (.head _))) (by kernel_rfl) (by kernel_rfl) (by kernel_rfl) (by kernel_rfl) (by kernel_rfl)
 have ht' : cond (Nat.beq g 8) (some (⟨.int .u8, tabTz⟩ : (s : Sh) × List s.Den)) (cond (Nat.beq g 4) (some ⟨.int .u64, tabTen⟩) none) = some t := ht
 cases e8 : Nat.beq g 8 with
 | true =>
  rw [e8] at ht'
  obtain rfl := Nat.eq_of_beq_eq_true e8
  simp only [cond_true, Option.some.injEq] at ht'
  subst ht'
  exact ⟨h8.1, by simp [tabTz], h8.2⟩
 | false =>
  rw [e8] at ht'
  cases e3 : Nat.beq g 4 with
  | true =>
   rw [e3] at ht'
   obtain rfl := Nat.eq_of_beq_eq_true e3
   simp only [cond_true, cond_false, Option.some.injEq] at ht'
   subst ht'
   exact ⟨h3.1, by simp [tabTen], h3.2⟩
  | false => rw [e3] at ht'; cases ht'
theorem AllC_of : ∀ {l : List Int}, (∀ x ∈ l, Cell x) → AllC l
 | [], _ => trivial
 | a :: l, h => ⟨h a (by simp), AllC_of fun x hx => h x (by simp [hx])⟩
theorem reach_le : reachBytes ≤ 4611686018427387904 := by decide +kernel
theorem stepEnters_plain : ∀ d : DenL [.pair (.sl (.sl (.pair (.int .i64) (.int .i64)))) (.pair (.sl (.pair .str (.pair .bool (.pair (.int .i64) (.pair (.int .i64) (.pair (.int .i64) (.int .i64))))))) (.int .i64)), .pair (.pair (.sl (.int .i64)) (.pair (.sl (.int .i64)) (.pair (.pair (.int .i64) (.int .i64)) (.int .i64)))) (.pair (.sl (.int .u8)) (.pair .str (.pair (.int .i64) (.pair (.int .i64) (.sl (.pair (.int .i64) (.pair (.int .i64) (.pair (.int .i64) (.int .i64)))))))))], FitsL reachBytes [.pair (.sl (.sl (.pair (.int .i64) (.int .i64)))) (.pair (.sl (.pair .str (.pair .bool (.pair (.int .i64) (.pair (.int .i64) (.pair (.int .i64) (.int .i64))))))) (.int .i64)), .pair (.pair (.sl (.int .i64)) (.pair (.sl (.int .i64)) (.pair (.pair (.int .i64) (.int .i64)) (.int .i64)))) (.pair (.sl (.int .u8)) (.pair .str (.pair (.int .i64) (.pair (.int .i64) (.sl (.pair (.int .i64) (.pair (.int .i64) (.pair (.int .i64) (.int .i64)))))))))] d →
  lawEnters_sp (AV × Heap) (argsAV Tryz.prog Tryz.f8.params.toList [.pair (.sl (.sl (.pair (.int .i64) (.int .i64)))) (.pair (.sl (.pair .str (.pair .bool (.pair (.int .i64) (.pair (.int .i64) (.pair (.int .i64) (.int .i64))))))) (.int .i64)), .pair (.pair (.sl (.int .i64)) (.pair (.sl (.int .i64)) (.pair (.pair (.int .i64) (.int .i64)) (.int .i64)))) (.pair (.sl (.int .u8)) (.pair .str (.pair (.int .i64) (.pair (.int .i64) (.sl (.pair (.int .i64) (.pair (.int .i64) (.pair (.int .i64) (.int .i64)))))))))] d) [] (fun v H => some (v, H)) = some (.lit (.bool true), []) := by
 rintro ⟨⟨thr, wrd, lib⟩, ⟨⟨D, R, ⟨th, at_⟩, H⟩, M, o, me, ti, hi⟩, _⟩ ⟨⟨hthr, hwrd, hlib⟩, ⟨⟨hD, hR, _, _⟩, hM, ho, hme, hti, hhi⟩, _⟩
 have cell : ∀ {x : Int}, Sh.Fits reachBytes (.int .i64) x → Cell x := fun h => h
 have bM : Bytes M := fun x hx => by
  have h : 0 ≤ x ∧ x ≤ 255 := hM.2 x hx
  omega
 have hw : wrd.length ≤ 3000000000000 := by
  have h0 : wrd.length * 49 ≤ reachBytes := hwrd.1.2
  have h1 : reachBytes ≤ 140737488355328 := by decide +kernel
  omega
 have h := enters_eq thr wrd lib D R th at_ H M o me ti hi  (Nat.le_trans hthr.1.1 reach_le) hw (fun l hl => Nat.le_trans (hthr.2 l hl).1.1 reach_le) (AllC_of fun x hx => cell (hD.2 x hx)) (AllC_of fun x hx => cell (hR.2 x hx)) bM (cell hme) (cell hti) (fun x hx => cell (hwrd.2 x hx).2.2.2.1) (fun l hl x hx => cell ((hthr.2 l hl).2 x hx).2)
 have e : lawEnters_sp (AV × Heap) (argsAV Tryz.prog Tryz.f8.params.toList [.pair (.sl (.sl (.pair (.int .i64) (.int .i64)))) (.pair (.sl (.pair .str (.pair .bool (.pair (.int .i64) (.pair (.int .i64) (.pair (.int .i64) (.int .i64))))))) (.int .i64)), .pair (.pair (.sl (.int .i64)) (.pair (.sl (.int .i64)) (.pair (.pair (.int .i64) (.int .i64)) (.int .i64)))) (.pair (.sl (.int .u8)) (.pair .str (.pair (.int .i64) (.pair (.int .i64) (.sl (.pair (.int .i64) (.pair (.int .i64) (.pair (.int .i64) (.int .i64)))))))))] ((thr, wrd, lib), ((D, R, (th, at_), H), M, o, me, ti, hi), ())) [] (fun v H => some (v, H)) = outOf (lawEnters thr wrd lib D R th at_ H M o me ti hi ) fun v => some (.lit (.bool v), []) := by kernel_rfl
 rw [e, h]
 rfl
theorem stepEnters_run : ∀ d : DenL [.pair (.sl (.sl (.pair (.int .i64) (.int .i64)))) (.pair (.sl (.pair .str (.pair .bool (.pair (.int .i64) (.pair (.int .i64) (.pair (.int .i64) (.int .i64))))))) (.int .i64)), .pair (.pair (.sl (.int .i64)) (.pair (.sl (.int .i64)) (.pair (.pair (.int .i64) (.int .i64)) (.int .i64)))) (.pair (.sl (.int .u8)) (.pair .str (.pair (.int .i64) (.pair (.int .i64) (.sl (.pair (.int .i64) (.pair (.int .i64) (.pair (.int .i64) (.int .i64)))))))))], FitsL reachBytes [.pair (.sl (.sl (.pair (.int .i64) (.int .i64)))) (.pair (.sl (.pair .str (.pair .bool (.pair (.int .i64) (.pair (.int .i64) (.pair (.int .i64) (.int .i64))))))) (.int .i64)), .pair (.pair (.sl (.int .i64)) (.pair (.sl (.int .i64)) (.pair (.pair (.int .i64) (.int .i64)) (.int .i64)))) (.pair (.sl (.int .u8)) (.pair .str (.pair (.int .i64) (.pair (.int .i64) (.sl (.pair (.int .i64) (.pair (.int .i64) (.pair (.int .i64) (.int .i64)))))))))] d →
  ∃ sp, TX.Good Tryz.prog 8 sp ∧ ∃ H', sp (AV × Heap) (argsAV Tryz.prog Tryz.f8.params.toList [.pair (.sl (.sl (.pair (.int .i64) (.int .i64)))) (.pair (.sl (.pair .str (.pair .bool (.pair (.int .i64) (.pair (.int .i64) (.pair (.int .i64) (.int .i64))))))) (.int .i64)), .pair (.pair (.sl (.int .i64)) (.pair (.sl (.int .i64)) (.pair (.pair (.int .i64) (.int .i64)) (.int .i64)))) (.pair (.sl (.int .u8)) (.pair .str (.pair (.int .i64) (.pair (.int .i64) (.sl (.pair (.int .i64) (.pair (.int .i64) (.pair (.int .i64) (.int .i64)))))))))] d) [] (fun v H => some (v, H)) = some (.lit (.bool true), H') := by
 intro d hd
 exact ⟨lawEnters_sp, lawEnters_good, [], stepEnters_plain d hd⟩
theorem stepEnters_lifted (os : Os) (started : os.Started) (H : Type) (enc : TypeId × Value → H) :
  ReturnsInHanded {} Tryz.checked os 8 .any (fun w args => (Rows.stepEntersSpec.pre enc Tryz.prog Tryz.f8 [] false w args ∧ laidMetH Tryz.prog Rows.stepEntersRow.laid w) ∧ sizedMet enc Tryz.prog Tryz.f8 (OpenSpec.ofChange Rows.stepEntersSpec) false w args)
   (Rows.stepEntersSpec.post enc Tryz.prog Tryz.f8 false true false false) :=
 law_lifted_laid (C := Tryz.checked) (fn := Tryz.f8) (code := bodyOf Tryz.f8) (tb := 4) (B := reachBytes) (laid := Rows.stepEntersRow.laid) (by kernel_rfl) started (by kernel_rfl) Tryz.func8 (body_of rfl) (by kernel_rfl)
  (ChangeSpec.witness_shaped (enc := enc) (C := Tryz.checked) (os := os) (X := fun w _ => laidMetH Tryz.prog Rows.stepEntersRow.laid w) false (World.laidAll Tryz.prog os Rows.stepEntersRow.laid) #[.agg #[.slice none 0 0, .slice none 0 0, .int .i64 0], .agg #[.slice none 0 0, .slice none 0 0, .int .i64 0, .int .i64 0, .int .i64 0, .slice none 0 0, .string ⟨#[]⟩, .int .i64 0, .int .i64 0, .slice none 0 0]] 8 (World.laidAll_os _ _ _)
   (World.shaped_of_ZipB (by kernel_rfl) (by kernel_rfl)) (by kernel_rfl) (by kernel_rfl) (by kernel_rfl)
   (by rw [MakeChecks.laidMetH_plain _ _ _ (by kernel_rfl)]; exact laidMet_laidAll _ (by kernel_rfl) (by kernel_rfl)))
  (by kernel_rfl) (by kernel_rfl) (by kernel_rfl) (shs := [.pair (.sl (.sl (.pair (.int .i64) (.int .i64)))) (.pair (.sl (.pair .str (.pair .bool (.pair (.int .i64) (.pair (.int .i64) (.pair (.int .i64) (.int .i64))))))) (.int .i64)), .pair (.pair (.sl (.int .i64)) (.pair (.sl (.int .i64)) (.pair (.pair (.int .i64) (.int .i64)) (.int .i64)))) (.pair (.sl (.int .u8)) (.pair .str (.pair (.int .i64) (.pair (.int .i64) (.sl (.pair (.int .i64) (.pair (.int .i64) (.pair (.int .i64) (.int .i64)))))))))]) (by kernel_rfl) (by kernel_rfl) (by kernel_rfl) rfl
  (fun ds hd => match ds, hd with | [_, _], _ => rfl) (meas_said Tryz.prog H) stepEnters_run (fun _ h => laid_glob h)
theorem stepEnters_holds : Rows.StepEntersSaid :=
 OpenClaim.holds_of_wide 8 Tryz.f8 rfl rfl rfl rfl rfl rfl rfl ⟨rfl, rfl, rfl, rfl, rfl⟩ rfl rfl rfl rfl rfl stepEnters_named Tryz.func8 stepEnters_facts
  (of_decide_eq_true (by as_aux_lemma => kernel_rfl)) (by unfold Func.isWrapper; first | (rw [if_pos (by decide +kernel)]; kernel_rfl) | (rw [if_neg (by decide +kernel)]; exact ⟨rfl, rfl⟩))
  (fun os started H enc _ => stepEnters_lifted os started H enc)
theorem stepEnters_card : Rows.StepEntersCardSaid :=
 Claim7.holds_tied_plain_at .later [] [.data, .data, .data, .data, .pinned, .pinned] true (true, "681d9e3b1efb516c3ec0406b4700730d9e0e9bcf88385fc0c2a9b5e20f84a264") false stepEnters_holds (fun _ h => by cases h) stepEnters_wf (fun _ h => by cases h) stepEnters_row_tie rfl ⟨rfl, rfl⟩ seat_main rfl
  (fun f fn hf hfn => by
   obtain rfl : f = 8 := Option.some.inj (stepEnters_named.symm.trans hf) |>.symm
   obtain rfl : fn = Tryz.f8 := (Option.some.inj (Tryz.func8.symm.trans hfn)).symm
   exact ⟨seat_looks, fun j t ht => by
    rw [Tryz.params8] at ht
    have hm : t ∈ [25,34] := by simpa using Array.mem_of_getElem? ht
    have hall : ([25,34].all fun u => !Tryz.prog.wantsStandIn u) = true := by kernel_rfl
    exact (show Tryz.prog.wantsStandIn t = false by simpa using List.all_eq_true.1 hall t hm)⟩)
  stepEnters_goes
end Go.Proofs.YtgchjlbhmfbgaaaGreatDoor
