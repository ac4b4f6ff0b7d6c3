/-
  DERIVED. GIVEN WITH THE SEED: THE CARDS: each row of YtfmdhcialeddaaaDoorRows.lean that lists a variable, with what it lists TIED to the program's text (the seventh form; the later family's looks); each row that meets fmt, with fmt's text TOLD by the authors' own Lean function (tested against real Go, not proved from fmt's source: count such statements apart). THE CARD IS WHAT COUNTS. Prove the row's statement (the work); the ties are given (YtfmdhcialeddaaaDoorTie.lean); close each card by the builder's one call (the guide's Derived/Test/ToyasCard.lean, 'card_holds'). Laid BY PROGRAM, IN A SANDBOX (cutbox-door.mjs). By AI agents, Wed Nov 11 2026. No macro, syntax, notation, axiom, sorry.
-/
import Derived.Test.YtfmdhcialeddaaaDoorRows
import GoSem.ClaimSeven
namespace Go.Proofs.YtfmdhcialeddaaaDoor
namespace Rows

/-- THE TIED CARD OF 'tenterhooklaw05.NumBad'. -/
def numBadCard : Claim7 := { stood := { row := numBadRow, standIns := [], harness := (true, "23ed661a2948ac9622ace846ac2603e579c0d9076b35c08d2257b5a814cd10d1"), looks := false }, kinds := [], alts := [], laidByText := true, laidKinds := [.data, .data, .data, .data, .pinned, .pinned], laidTests := true, laidLooks := .later }
def NumBadCardSaid : Prop := Claim7.holds Tryd.pinned (.plain (OpenSpec.ofChange numBadSpec)) numBadCard

/-- THE TIED CARD OF 'tenterhooklaw05.NumDoubles'. -/
def numDoublesCard : Claim7 := { stood := { row := numDoublesRow, standIns := [], harness := (true, "23ed661a2948ac9622ace846ac2603e579c0d9076b35c08d2257b5a814cd10d1"), looks := false }, kinds := [], alts := [], laidByText := true, laidKinds := [.data, .data, .data, .data, .pinned, .pinned], laidTests := true, laidLooks := .later }
def NumDoublesCardSaid : Prop := Claim7.holds Tryd.pinned (.plain (OpenSpec.ofChange numDoublesSpec)) numDoublesCard

/-- THE TIED CARD OF 'tenterhooklaw05.NumSteps'. -/
def numStepsCard : Claim7 := { stood := { row := numStepsRow, standIns := [], harness := (true, "23ed661a2948ac9622ace846ac2603e579c0d9076b35c08d2257b5a814cd10d1"), looks := false }, kinds := [], alts := [], laidByText := true, laidKinds := [.data, .data, .data, .data, .pinned, .pinned], laidTests := true, laidLooks := .later }
def NumStepsCardSaid : Prop := Claim7.holds Tryd.pinned (.plain (OpenSpec.ofChange numStepsSpec)) numStepsCard

/-- THE TIED CARD OF 'tenterhooklaw05.NumIs'. -/
def numIsCard : Claim7 := { stood := { row := numIsRow, standIns := [], harness := (true, "23ed661a2948ac9622ace846ac2603e579c0d9076b35c08d2257b5a814cd10d1"), looks := false }, kinds := [], alts := [], laidByText := true, laidKinds := [.data, .data, .data, .data, .pinned, .pinned], laidTests := true, laidLooks := .later }
def NumIsCardSaid : Prop := Claim7.holds Tryd.pinned (.plain (OpenSpec.ofChange numIsSpec)) numIsCard

/-- THE TIED CARD OF 'tenterhooklaw05.NumBack'. -/
def numBackCard : Claim7 := { stood := { row := numBackRow, standIns := [], harness := (true, "23ed661a2948ac9622ace846ac2603e579c0d9076b35c08d2257b5a814cd10d1"), looks := false }, kinds := [], alts := [], laidByText := true, laidKinds := [.data, .data, .data, .data, .pinned, .pinned], laidTests := true, laidLooks := .later }
def NumBackCardSaid : Prop := Claim7.holds Tryd.pinned (.plain (OpenSpec.ofChange numBackSpec)) numBackCard

/-- THE TIED CARD OF 'tenterhooklaw05.NumCase'. -/
def numCaseCard : Claim7 := { stood := { row := numCaseRow, standIns := [], harness := (true, "23ed661a2948ac9622ace846ac2603e579c0d9076b35c08d2257b5a814cd10d1"), looks := false }, kinds := [], alts := [], laidByText := true, laidKinds := [.data, .data, .data, .data, .pinned, .pinned], laidTests := true, laidLooks := .later }
def NumCaseCardSaid : Prop := Claim7.holds Tryd.pinned (.plain (OpenSpec.ofChange numCaseSpec)) numCaseCard

/-- THE TIED CARD OF 'tenterhooklaw05.NumForm'. -/
def numFormCard : Claim7 := { stood := { row := numFormRow, standIns := [], harness := (true, "23ed661a2948ac9622ace846ac2603e579c0d9076b35c08d2257b5a814cd10d1"), looks := false }, kinds := [], alts := [], laidByText := true, laidKinds := [.data, .data, .data, .data, .pinned, .pinned], laidTests := true, laidLooks := .later }
def NumFormCardSaid : Prop := Claim7.holds Tryd.pinned (.plain (OpenSpec.ofChange numFormSpec)) numFormCard

/-- THE TIED CARD OF 'tenterhooklaw10.PicHolds'. -/
def picHoldsCard : Claim7 := { stood := { row := picHoldsRow, standIns := [], harness := (true, "23ed661a2948ac9622ace846ac2603e579c0d9076b35c08d2257b5a814cd10d1"), looks := false }, kinds := [], alts := [], laidByText := true, laidKinds := [.data, .data, .data, .data, .pinned, .pinned], laidTests := true, laidLooks := .later }
def PicHoldsCardSaid : Prop := Claim7.holds Tryd.pinned (.plain (OpenSpec.ofChange picHoldsSpec)) picHoldsCard

/-- THE TIED CARD OF 'tenterhooklaw10.PicSteps'. -/
def picStepsCard : Claim7 := { stood := { row := picStepsRow, standIns := [], harness := (true, "23ed661a2948ac9622ace846ac2603e579c0d9076b35c08d2257b5a814cd10d1"), looks := false }, kinds := [], alts := [], laidByText := true, laidKinds := [.data, .data, .data, .data, .pinned, .pinned], laidTests := true, laidLooks := .later }
def PicStepsCardSaid : Prop := Claim7.holds Tryd.pinned (.plain (OpenSpec.ofChange picStepsSpec)) picStepsCard

/-- THE TIED CARD OF 'tenterhooklaw10.PicIs'. -/
def picIsCard : Claim7 := { stood := { row := picIsRow, standIns := [], harness := (true, "23ed661a2948ac9622ace846ac2603e579c0d9076b35c08d2257b5a814cd10d1"), looks := false }, kinds := [], alts := [], laidByText := true, laidKinds := [.data, .data, .data, .data, .pinned, .pinned], laidTests := true, laidLooks := .later }
def PicIsCardSaid : Prop := Claim7.holds Tryd.pinned (.plain (OpenSpec.ofChange picIsSpec)) picIsCard

/-- THE TIED CARD OF 'tenterhooklaw10.PicTexts'. -/
def picTextsCard : Claim7 := { stood := { row := picTextsRow, standIns := [], harness := (true, "23ed661a2948ac9622ace846ac2603e579c0d9076b35c08d2257b5a814cd10d1"), looks := false }, kinds := [], alts := [], laidByText := true, laidKinds := [.data, .data, .data, .data, .pinned, .pinned], laidTests := true, laidLooks := .later }
def PicTextsCardSaid : Prop := Claim7.holds Tryd.pinned (.plain (OpenSpec.ofChange picTextsSpec)) picTextsCard

/-- THE SECOND FORM's CARD OF 'tenterhooklaw05.NumBad'. -/
def numBadUptoCard : Claim7 := { stood := { row := numBadUptoRow, standIns := [], harness := (true, "23ed661a2948ac9622ace846ac2603e579c0d9076b35c08d2257b5a814cd10d1"), looks := false }, kinds := [], alts := [], laidByText := true, laidKinds := [.data, .data, .data, .data, .pinned, .pinned], laidTests := true, laidLooks := .later }
def NumBadUptoCardSaid : Prop := Claim7.holds Tryd.pinned (.plain (OpenSpec.upto numBadSpec)) numBadUptoCard

/-- THE SECOND FORM's CARD OF 'tenterhooklaw05.NumDoubles'. -/
def numDoublesUptoCard : Claim7 := { stood := { row := numDoublesUptoRow, standIns := [], harness := (true, "23ed661a2948ac9622ace846ac2603e579c0d9076b35c08d2257b5a814cd10d1"), looks := false }, kinds := [], alts := [], laidByText := true, laidKinds := [.data, .data, .data, .data, .pinned, .pinned], laidTests := true, laidLooks := .later }
def NumDoublesUptoCardSaid : Prop := Claim7.holds Tryd.pinned (.plain (OpenSpec.upto numDoublesSpec)) numDoublesUptoCard

/-- THE SECOND FORM's CARD OF 'tenterhooklaw05.NumSteps'. -/
def numStepsUptoCard : Claim7 := { stood := { row := numStepsUptoRow, standIns := [], harness := (true, "23ed661a2948ac9622ace846ac2603e579c0d9076b35c08d2257b5a814cd10d1"), looks := false }, kinds := [], alts := [], laidByText := true, laidKinds := [.data, .data, .data, .data, .pinned, .pinned], laidTests := true, laidLooks := .later }
def NumStepsUptoCardSaid : Prop := Claim7.holds Tryd.pinned (.plain (OpenSpec.upto numStepsSpec)) numStepsUptoCard

/-- THE SECOND FORM's CARD OF 'tenterhooklaw05.NumIs'. -/
def numIsUptoCard : Claim7 := { stood := { row := numIsUptoRow, standIns := [], harness := (true, "23ed661a2948ac9622ace846ac2603e579c0d9076b35c08d2257b5a814cd10d1"), looks := false }, kinds := [], alts := [], laidByText := true, laidKinds := [.data, .data, .data, .data, .pinned, .pinned], laidTests := true, laidLooks := .later }
def NumIsUptoCardSaid : Prop := Claim7.holds Tryd.pinned (.plain (OpenSpec.upto numIsSpec)) numIsUptoCard

/-- THE SECOND FORM's CARD OF 'tenterhooklaw05.NumBack'. -/
def numBackUptoCard : Claim7 := { stood := { row := numBackUptoRow, standIns := [], harness := (true, "23ed661a2948ac9622ace846ac2603e579c0d9076b35c08d2257b5a814cd10d1"), looks := false }, kinds := [], alts := [], laidByText := true, laidKinds := [.data, .data, .data, .data, .pinned, .pinned], laidTests := true, laidLooks := .later }
def NumBackUptoCardSaid : Prop := Claim7.holds Tryd.pinned (.plain (OpenSpec.upto numBackSpec)) numBackUptoCard

/-- THE SECOND FORM's CARD OF 'tenterhooklaw05.NumCase'. -/
def numCaseUptoCard : Claim7 := { stood := { row := numCaseUptoRow, standIns := [], harness := (true, "23ed661a2948ac9622ace846ac2603e579c0d9076b35c08d2257b5a814cd10d1"), looks := false }, kinds := [], alts := [], laidByText := true, laidKinds := [.data, .data, .data, .data, .pinned, .pinned], laidTests := true, laidLooks := .later }
def NumCaseUptoCardSaid : Prop := Claim7.holds Tryd.pinned (.plain (OpenSpec.upto numCaseSpec)) numCaseUptoCard

/-- THE SECOND FORM's CARD OF 'tenterhooklaw05.NumForm'. -/
def numFormUptoCard : Claim7 := { stood := { row := numFormUptoRow, standIns := [], harness := (true, "23ed661a2948ac9622ace846ac2603e579c0d9076b35c08d2257b5a814cd10d1"), looks := false }, kinds := [], alts := [], laidByText := true, laidKinds := [.data, .data, .data, .data, .pinned, .pinned], laidTests := true, laidLooks := .later }
def NumFormUptoCardSaid : Prop := Claim7.holds Tryd.pinned (.plain (OpenSpec.upto numFormSpec)) numFormUptoCard

/-- THE SECOND FORM's CARD OF 'tenterhooklaw10.PicHolds'. -/
def picHoldsUptoCard : Claim7 := { stood := { row := picHoldsUptoRow, standIns := [], harness := (true, "23ed661a2948ac9622ace846ac2603e579c0d9076b35c08d2257b5a814cd10d1"), looks := false }, kinds := [], alts := [], laidByText := true, laidKinds := [.data, .data, .data, .data, .pinned, .pinned], laidTests := true, laidLooks := .later }
def PicHoldsUptoCardSaid : Prop := Claim7.holds Tryd.pinned (.plain (OpenSpec.upto picHoldsSpec)) picHoldsUptoCard

/-- THE SECOND FORM's CARD OF 'tenterhooklaw10.PicSteps'. -/
def picStepsUptoCard : Claim7 := { stood := { row := picStepsUptoRow, standIns := [], harness := (true, "23ed661a2948ac9622ace846ac2603e579c0d9076b35c08d2257b5a814cd10d1"), looks := false }, kinds := [], alts := [], laidByText := true, laidKinds := [.data, .data, .data, .data, .pinned, .pinned], laidTests := true, laidLooks := .later }
def PicStepsUptoCardSaid : Prop := Claim7.holds Tryd.pinned (.plain (OpenSpec.upto picStepsSpec)) picStepsUptoCard

/-- THE SECOND FORM's CARD OF 'tenterhooklaw10.PicIs'. -/
def picIsUptoCard : Claim7 := { stood := { row := picIsUptoRow, standIns := [], harness := (true, "23ed661a2948ac9622ace846ac2603e579c0d9076b35c08d2257b5a814cd10d1"), looks := false }, kinds := [], alts := [], laidByText := true, laidKinds := [.data, .data, .data, .data, .pinned, .pinned], laidTests := true, laidLooks := .later }
def PicIsUptoCardSaid : Prop := Claim7.holds Tryd.pinned (.plain (OpenSpec.upto picIsSpec)) picIsUptoCard

/-- THE SECOND FORM's CARD OF 'tenterhooklaw10.PicTexts'. -/
def picTextsUptoCard : Claim7 := { stood := { row := picTextsUptoRow, standIns := [], harness := (true, "23ed661a2948ac9622ace846ac2603e579c0d9076b35c08d2257b5a814cd10d1"), looks := false }, kinds := [], alts := [], laidByText := true, laidKinds := [.data, .data, .data, .data, .pinned, .pinned], laidTests := true, laidLooks := .later }
def PicTextsUptoCardSaid : Prop := Claim7.holds Tryd.pinned (.plain (OpenSpec.upto picTextsSpec)) picTextsUptoCard
end Rows
end Go.Proofs.YtfmdhcialeddaaaDoor
