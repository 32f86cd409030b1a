/-
  DERIVED. GIVEN WITH THE SEED: THE CARDS: each row of YtlhemheagekhaaaGreatDoorRows.lean that lists a variable, with what it lists TIED to the program's text (the seventh form; the later family's looks); each row that meets fmt, with fmt's text TOLD by the authors' own Lean function (tested against real Go, not proved from fmt's source: count such statements apart). THE CARD IS WHAT COUNTS. Prove the row's statement (the work); the ties are given (YtlhemheagekhaaaGreatDoorTie.lean); close each card by the builder's one call (the guide's Derived/Test/ToyasCard.lean, 'card_holds'). Laid BY PROGRAM, IN A SANDBOX (cutbox-door.mjs). By AI agents, Wed Nov 11 2026. No macro, syntax, notation, axiom, sorry.
-/
import Derived.Test.YtlhemheagekhaaaGreatDoorRows
import GoSem.ClaimSeven
namespace Go.Proofs.YtlhemheagekhaaaGreatDoor
namespace Rows

/-- THE TIED CARD OF 'tranchelaw50.RestateStep'. -/
def restateStepCard : Claim7 := { stood := { row := restateStepRow, standIns := [], harness := (true, "984b43b0cacdfb60a318c7a3e5533565b58f163ca8672ba1640f4f61dfdfb641"), looks := true }, kinds := [], alts := [], laidByText := true, laidKinds := [.data, .data, .data, .data, .sentinel, .sentinel, .pinned], laidTests := true, laidLooks := .later }
def RestateStepCardSaid : Prop := Claim7.holds Tryz.pinned (.plain (OpenSpec.ofChange restateStepSpec)) restateStepCard

/-- THE TIED CARD OF 'tranchelaw50.RestateDays'. -/
def restateDaysCard : Claim7 := { stood := { row := restateDaysRow, standIns := [], harness := (true, "984b43b0cacdfb60a318c7a3e5533565b58f163ca8672ba1640f4f61dfdfb641"), looks := true }, kinds := [], alts := [], laidByText := true, laidKinds := [.data, .data, .data, .data, .sentinel, .sentinel, .pinned], laidTests := true, laidLooks := .later }
def RestateDaysCardSaid : Prop := Claim7.holds Tryz.pinned (.plain (OpenSpec.ofChange restateDaysSpec)) restateDaysCard

/-- THE TIED CARD OF 'tranchelaw50.RestateSteps'. -/
def restateStepsCard : Claim7 := { stood := { row := restateStepsRow, standIns := [], harness := (true, "984b43b0cacdfb60a318c7a3e5533565b58f163ca8672ba1640f4f61dfdfb641"), looks := true }, kinds := [], alts := [], laidByText := true, laidKinds := [.data, .data, .data, .data, .sentinel, .sentinel, .pinned], laidTests := true, laidLooks := .later }
def RestateStepsCardSaid : Prop := Claim7.holds Tryz.pinned (.plain (OpenSpec.ofChange restateStepsSpec)) restateStepsCard

/-- THE TIED CARD OF 'tranchelaw50.RestateTrials'. -/
def restateTrialsCard : Claim7 := { stood := { row := restateTrialsRow, standIns := [], harness := (true, "984b43b0cacdfb60a318c7a3e5533565b58f163ca8672ba1640f4f61dfdfb641"), looks := true }, kinds := [], alts := [], laidByText := true, laidKinds := [.data, .data, .data, .data, .sentinel, .sentinel, .pinned], laidTests := true, laidLooks := .later }
def RestateTrialsCardSaid : Prop := Claim7.holds Tryz.pinned (.plain (OpenSpec.ofChange restateTrialsSpec)) restateTrialsCard

/-- THE TIED CARD OF 'tranchelaw50.RestateBetween'. -/
def restateBetweenCard : Claim7 := { stood := { row := restateBetweenRow, standIns := [], harness := (true, "984b43b0cacdfb60a318c7a3e5533565b58f163ca8672ba1640f4f61dfdfb641"), looks := true }, kinds := [], alts := [], laidByText := true, laidKinds := [.data, .data, .data, .data, .sentinel, .sentinel, .pinned], laidTests := true, laidLooks := .later }
def RestateBetweenCardSaid : Prop := Claim7.holds Tryz.pinned (.plain (OpenSpec.ofChange restateBetweenSpec)) restateBetweenCard

/-- THE TIED CARD OF 'tranchelaw50.RestateExplains'. -/
def restateExplainsCard : Claim7 := { stood := { row := restateExplainsRow, standIns := [], harness := (true, "984b43b0cacdfb60a318c7a3e5533565b58f163ca8672ba1640f4f61dfdfb641"), looks := true }, kinds := [], alts := [], laidByText := true, laidKinds := [.data, .data, .data, .data, .sentinel, .sentinel, .pinned], laidTests := true, laidLooks := .later }
def RestateExplainsCardSaid : Prop := Claim7.holds Tryz.pinned (.plain (OpenSpec.ofChange restateExplainsSpec)) restateExplainsCard

/-- THE TIED CARD OF 'tranchelaw50.RestateReads'. -/
def restateReadsCard : Claim7 := { stood := { row := restateReadsRow, standIns := [], harness := (true, "984b43b0cacdfb60a318c7a3e5533565b58f163ca8672ba1640f4f61dfdfb641"), looks := true }, kinds := [], alts := [], laidByText := true, laidKinds := [.data, .data, .data, .data, .sentinel, .sentinel, .pinned], laidTests := true, laidLooks := .later }
def RestateReadsCardSaid : Prop := Claim7.holds Tryz.pinned (.plain (OpenSpec.ofChange restateReadsSpec)) restateReadsCard

/-- THE SECOND FORM's CARD OF 'tranchelaw50.RestateStep'. -/
def restateStepUptoCard : Claim7 := { stood := { row := restateStepUptoRow, standIns := [], harness := (true, "984b43b0cacdfb60a318c7a3e5533565b58f163ca8672ba1640f4f61dfdfb641"), looks := true }, kinds := [], alts := [], laidByText := true, laidKinds := [.data, .data, .data, .data, .sentinel, .sentinel, .pinned], laidTests := true, laidLooks := .later }
def RestateStepUptoCardSaid : Prop := Claim7.holds Tryz.pinned (.plain (OpenSpec.upto restateStepSpec)) restateStepUptoCard

/-- THE SECOND FORM's CARD OF 'tranchelaw50.RestateDays'. -/
def restateDaysUptoCard : Claim7 := { stood := { row := restateDaysUptoRow, standIns := [], harness := (true, "984b43b0cacdfb60a318c7a3e5533565b58f163ca8672ba1640f4f61dfdfb641"), looks := true }, kinds := [], alts := [], laidByText := true, laidKinds := [.data, .data, .data, .data, .sentinel, .sentinel, .pinned], laidTests := true, laidLooks := .later }
def RestateDaysUptoCardSaid : Prop := Claim7.holds Tryz.pinned (.plain (OpenSpec.upto restateDaysSpec)) restateDaysUptoCard

/-- THE SECOND FORM's CARD OF 'tranchelaw50.RestateSteps'. -/
def restateStepsUptoCard : Claim7 := { stood := { row := restateStepsUptoRow, standIns := [], harness := (true, "984b43b0cacdfb60a318c7a3e5533565b58f163ca8672ba1640f4f61dfdfb641"), looks := true }, kinds := [], alts := [], laidByText := true, laidKinds := [.data, .data, .data, .data, .sentinel, .sentinel, .pinned], laidTests := true, laidLooks := .later }
def RestateStepsUptoCardSaid : Prop := Claim7.holds Tryz.pinned (.plain (OpenSpec.upto restateStepsSpec)) restateStepsUptoCard

/-- THE SECOND FORM's CARD OF 'tranchelaw50.RestateTrials'. -/
def restateTrialsUptoCard : Claim7 := { stood := { row := restateTrialsUptoRow, standIns := [], harness := (true, "984b43b0cacdfb60a318c7a3e5533565b58f163ca8672ba1640f4f61dfdfb641"), looks := true }, kinds := [], alts := [], laidByText := true, laidKinds := [.data, .data, .data, .data, .sentinel, .sentinel, .pinned], laidTests := true, laidLooks := .later }
def RestateTrialsUptoCardSaid : Prop := Claim7.holds Tryz.pinned (.plain (OpenSpec.upto restateTrialsSpec)) restateTrialsUptoCard

/-- THE SECOND FORM's CARD OF 'tranchelaw50.RestateBetween'. -/
def restateBetweenUptoCard : Claim7 := { stood := { row := restateBetweenUptoRow, standIns := [], harness := (true, "984b43b0cacdfb60a318c7a3e5533565b58f163ca8672ba1640f4f61dfdfb641"), looks := true }, kinds := [], alts := [], laidByText := true, laidKinds := [.data, .data, .data, .data, .sentinel, .sentinel, .pinned], laidTests := true, laidLooks := .later }
def RestateBetweenUptoCardSaid : Prop := Claim7.holds Tryz.pinned (.plain (OpenSpec.upto restateBetweenSpec)) restateBetweenUptoCard

/-- THE SECOND FORM's CARD OF 'tranchelaw50.RestateExplains'. -/
def restateExplainsUptoCard : Claim7 := { stood := { row := restateExplainsUptoRow, standIns := [], harness := (true, "984b43b0cacdfb60a318c7a3e5533565b58f163ca8672ba1640f4f61dfdfb641"), looks := true }, kinds := [], alts := [], laidByText := true, laidKinds := [.data, .data, .data, .data, .sentinel, .sentinel, .pinned], laidTests := true, laidLooks := .later }
def RestateExplainsUptoCardSaid : Prop := Claim7.holds Tryz.pinned (.plain (OpenSpec.upto restateExplainsSpec)) restateExplainsUptoCard

/-- THE SECOND FORM's CARD OF 'tranchelaw50.RestateReads'. -/
def restateReadsUptoCard : Claim7 := { stood := { row := restateReadsUptoRow, standIns := [], harness := (true, "984b43b0cacdfb60a318c7a3e5533565b58f163ca8672ba1640f4f61dfdfb641"), looks := true }, kinds := [], alts := [], laidByText := true, laidKinds := [.data, .data, .data, .data, .sentinel, .sentinel, .pinned], laidTests := true, laidLooks := .later }
def RestateReadsUptoCardSaid : Prop := Claim7.holds Tryz.pinned (.plain (OpenSpec.upto restateReadsSpec)) restateReadsUptoCard
end Rows
end Go.Proofs.YtlhemheagekhaaaGreatDoor
