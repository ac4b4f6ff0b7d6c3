/-
  DERIVED. GIVEN WITH THE SEED: THE CARDS: each row of YtgchjlbhmfbgaaaGreatDoorRows.lean that lists a variable, with what it lists TIED to the program's text (the seventh form; the later family's looks); each row that meets fmt, with fmt's text TOLD by the authors' own Lean function (tested against real Go, not proved from fmt's source: count such statements apart). THE CARD IS WHAT COUNTS. Prove the row's statement (the work); the ties are given (YtgchjlbhmfbgaaaGreatDoorTie.lean); close each card by the builder's one call (the guide's Derived/Test/ToyasCard.lean, 'card_holds'). Laid BY PROGRAM, IN A SANDBOX (cutbox-door.mjs). By AI agents, Wed Nov 11 2026. No macro, syntax, notation, axiom, sorry.
-/
import Derived.Test.YtgchjlbhmfbgaaaGreatDoorRows
import GoSem.ClaimSeven
namespace Go.Proofs.YtgchjlbhmfbgaaaGreatDoor
namespace Rows

/-- THE TIED CARD OF 'tenterhooklaw14.StepRuns'. -/
def stepRunsCard : Claim7 := { stood := { row := stepRunsRow, standIns := [], harness := (true, "681d9e3b1efb516c3ec0406b4700730d9e0e9bcf88385fc0c2a9b5e20f84a264"), looks := false }, kinds := [], alts := [], laidByText := true, laidKinds := [.data, .data, .data, .data, .pinned, .pinned], laidTests := true, laidLooks := .later }
def StepRunsCardSaid : Prop := Claim7.holds Tryz.pinned (.plain (OpenSpec.ofChange stepRunsSpec)) stepRunsCard

/-- THE TIED CARD OF 'tenterhooklaw14.StepKeeps'. -/
def stepKeepsCard : Claim7 := { stood := { row := stepKeepsRow, standIns := [], harness := (true, "681d9e3b1efb516c3ec0406b4700730d9e0e9bcf88385fc0c2a9b5e20f84a264"), looks := false }, kinds := [], alts := [], laidByText := true, laidKinds := [.data, .data, .data, .data, .pinned, .pinned], laidTests := true, laidLooks := .later }
def StepKeepsCardSaid : Prop := Claim7.holds Tryz.pinned (.plain (OpenSpec.ofChange stepKeepsSpec)) stepKeepsCard

/-- THE TIED CARD OF 'tenterhooklaw14.StepPure'. -/
def stepPureCard : Claim7 := { stood := { row := stepPureRow, standIns := [], harness := (true, "681d9e3b1efb516c3ec0406b4700730d9e0e9bcf88385fc0c2a9b5e20f84a264"), looks := false }, kinds := [], alts := [], laidByText := true, laidKinds := [.data, .data, .data, .data, .pinned, .pinned], laidTests := true, laidLooks := .later }
def StepPureCardSaid : Prop := Claim7.holds Tryz.pinned (.plain (OpenSpec.ofChange stepPureSpec)) stepPureCard

/-- THE TIED CARD OF 'tenterhooklaw14.StepAlone'. -/
def stepAloneCard : Claim7 := { stood := { row := stepAloneRow, standIns := [], harness := (true, "681d9e3b1efb516c3ec0406b4700730d9e0e9bcf88385fc0c2a9b5e20f84a264"), looks := false }, kinds := [], alts := [], laidByText := true, laidKinds := [.data, .data, .data, .data, .pinned, .pinned], laidTests := true, laidLooks := .later }
def StepAloneCardSaid : Prop := Claim7.holds Tryz.pinned (.plain (OpenSpec.ofChange stepAloneSpec)) stepAloneCard

/-- THE TIED CARD OF 'tenterhooklaw14.StepThrows'. -/
def stepThrowsCard : Claim7 := { stood := { row := stepThrowsRow, standIns := [], harness := (true, "681d9e3b1efb516c3ec0406b4700730d9e0e9bcf88385fc0c2a9b5e20f84a264"), looks := false }, kinds := [], alts := [], laidByText := true, laidKinds := [.data, .data, .data, .data, .pinned, .pinned], laidTests := true, laidLooks := .later }
def StepThrowsCardSaid : Prop := Claim7.holds Tryz.pinned (.plain (OpenSpec.ofChange stepThrowsSpec)) stepThrowsCard

/-- THE TIED CARD OF 'tenterhooklaw14.StepEnters'. -/
def stepEntersCard : Claim7 := { stood := { row := stepEntersRow, standIns := [], harness := (true, "681d9e3b1efb516c3ec0406b4700730d9e0e9bcf88385fc0c2a9b5e20f84a264"), looks := false }, kinds := [], alts := [], laidByText := true, laidKinds := [.data, .data, .data, .data, .pinned, .pinned], laidTests := true, laidLooks := .later }
def StepEntersCardSaid : Prop := Claim7.holds Tryz.pinned (.plain (OpenSpec.ofChange stepEntersSpec)) stepEntersCard

/-- THE TIED CARD OF 'tenterhooklaw14.StepParts'. -/
def stepPartsCard : Claim7 := { stood := { row := stepPartsRow, standIns := [], harness := (true, "681d9e3b1efb516c3ec0406b4700730d9e0e9bcf88385fc0c2a9b5e20f84a264"), looks := false }, kinds := [], alts := [], laidByText := true, laidKinds := [.data, .data, .data, .data, .pinned, .pinned], laidTests := true, laidLooks := .later }
def StepPartsCardSaid : Prop := Claim7.holds Tryz.pinned (.plain (OpenSpec.ofChange stepPartsSpec)) stepPartsCard

/-- THE TIED CARD OF 'tenterhooklaw14.StepWhole'. -/
def stepWholeCard : Claim7 := { stood := { row := stepWholeRow, standIns := [], harness := (true, "681d9e3b1efb516c3ec0406b4700730d9e0e9bcf88385fc0c2a9b5e20f84a264"), looks := false }, kinds := [], alts := [], laidByText := true, laidKinds := [.data, .data, .data, .data, .pinned, .pinned], laidTests := true, laidLooks := .later }
def StepWholeCardSaid : Prop := Claim7.holds Tryz.pinned (.plain (OpenSpec.ofChange stepWholeSpec)) stepWholeCard

/-- THE SECOND FORM's CARD OF 'tenterhooklaw14.StepRuns'. -/
def stepRunsUptoCard : Claim7 := { stood := { row := stepRunsUptoRow, standIns := [], harness := (true, "681d9e3b1efb516c3ec0406b4700730d9e0e9bcf88385fc0c2a9b5e20f84a264"), looks := false }, kinds := [], alts := [], laidByText := true, laidKinds := [.data, .data, .data, .data, .pinned, .pinned], laidTests := true, laidLooks := .later }
def StepRunsUptoCardSaid : Prop := Claim7.holds Tryz.pinned (.plain (OpenSpec.upto stepRunsSpec)) stepRunsUptoCard

/-- THE SECOND FORM's CARD OF 'tenterhooklaw14.StepKeeps'. -/
def stepKeepsUptoCard : Claim7 := { stood := { row := stepKeepsUptoRow, standIns := [], harness := (true, "681d9e3b1efb516c3ec0406b4700730d9e0e9bcf88385fc0c2a9b5e20f84a264"), looks := false }, kinds := [], alts := [], laidByText := true, laidKinds := [.data, .data, .data, .data, .pinned, .pinned], laidTests := true, laidLooks := .later }
def StepKeepsUptoCardSaid : Prop := Claim7.holds Tryz.pinned (.plain (OpenSpec.upto stepKeepsSpec)) stepKeepsUptoCard

/-- THE SECOND FORM's CARD OF 'tenterhooklaw14.StepPure'. -/
def stepPureUptoCard : Claim7 := { stood := { row := stepPureUptoRow, standIns := [], harness := (true, "681d9e3b1efb516c3ec0406b4700730d9e0e9bcf88385fc0c2a9b5e20f84a264"), looks := false }, kinds := [], alts := [], laidByText := true, laidKinds := [.data, .data, .data, .data, .pinned, .pinned], laidTests := true, laidLooks := .later }
def StepPureUptoCardSaid : Prop := Claim7.holds Tryz.pinned (.plain (OpenSpec.upto stepPureSpec)) stepPureUptoCard

/-- THE SECOND FORM's CARD OF 'tenterhooklaw14.StepAlone'. -/
def stepAloneUptoCard : Claim7 := { stood := { row := stepAloneUptoRow, standIns := [], harness := (true, "681d9e3b1efb516c3ec0406b4700730d9e0e9bcf88385fc0c2a9b5e20f84a264"), looks := false }, kinds := [], alts := [], laidByText := true, laidKinds := [.data, .data, .data, .data, .pinned, .pinned], laidTests := true, laidLooks := .later }
def StepAloneUptoCardSaid : Prop := Claim7.holds Tryz.pinned (.plain (OpenSpec.upto stepAloneSpec)) stepAloneUptoCard

/-- THE SECOND FORM's CARD OF 'tenterhooklaw14.StepThrows'. -/
def stepThrowsUptoCard : Claim7 := { stood := { row := stepThrowsUptoRow, standIns := [], harness := (true, "681d9e3b1efb516c3ec0406b4700730d9e0e9bcf88385fc0c2a9b5e20f84a264"), looks := false }, kinds := [], alts := [], laidByText := true, laidKinds := [.data, .data, .data, .data, .pinned, .pinned], laidTests := true, laidLooks := .later }
def StepThrowsUptoCardSaid : Prop := Claim7.holds Tryz.pinned (.plain (OpenSpec.upto stepThrowsSpec)) stepThrowsUptoCard

/-- THE SECOND FORM's CARD OF 'tenterhooklaw14.StepEnters'. -/
def stepEntersUptoCard : Claim7 := { stood := { row := stepEntersUptoRow, standIns := [], harness := (true, "681d9e3b1efb516c3ec0406b4700730d9e0e9bcf88385fc0c2a9b5e20f84a264"), looks := false }, kinds := [], alts := [], laidByText := true, laidKinds := [.data, .data, .data, .data, .pinned, .pinned], laidTests := true, laidLooks := .later }
def StepEntersUptoCardSaid : Prop := Claim7.holds Tryz.pinned (.plain (OpenSpec.upto stepEntersSpec)) stepEntersUptoCard

/-- THE SECOND FORM's CARD OF 'tenterhooklaw14.StepParts'. -/
def stepPartsUptoCard : Claim7 := { stood := { row := stepPartsUptoRow, standIns := [], harness := (true, "681d9e3b1efb516c3ec0406b4700730d9e0e9bcf88385fc0c2a9b5e20f84a264"), looks := false }, kinds := [], alts := [], laidByText := true, laidKinds := [.data, .data, .data, .data, .pinned, .pinned], laidTests := true, laidLooks := .later }
def StepPartsUptoCardSaid : Prop := Claim7.holds Tryz.pinned (.plain (OpenSpec.upto stepPartsSpec)) stepPartsUptoCard

/-- THE SECOND FORM's CARD OF 'tenterhooklaw14.StepWhole'. -/
def stepWholeUptoCard : Claim7 := { stood := { row := stepWholeUptoRow, standIns := [], harness := (true, "681d9e3b1efb516c3ec0406b4700730d9e0e9bcf88385fc0c2a9b5e20f84a264"), looks := false }, kinds := [], alts := [], laidByText := true, laidKinds := [.data, .data, .data, .data, .pinned, .pinned], laidTests := true, laidLooks := .later }
def StepWholeUptoCardSaid : Prop := Claim7.holds Tryz.pinned (.plain (OpenSpec.upto stepWholeSpec)) stepWholeUptoCard
end Rows
end Go.Proofs.YtgchjlbhmfbgaaaGreatDoor
