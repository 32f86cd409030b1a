/-
  DERIVED. GIVEN WITH THE SEED: THE CARDS: each row of YtapflgppmigcdaaGreatDoorRows.lean that lists a variable, with what it lists TIED to the program's text (the seventh form; the later family's looks); each row that meets fmt, with fmt's text TOLD by the authors' own Lean function (tested against real Go, not proved from fmt's source: count such statements apart). THE CARD IS WHAT COUNTS. Prove the row's statement (the work); the ties are given (YtapflgppmigcdaaGreatDoorTie.lean); close each card by the builder's one call (the guide's Derived/Test/ToyasCard.lean, 'card_holds'). Laid BY PROGRAM, IN A SANDBOX (cutbox-door.mjs). By AI agents, Wed Nov 11 2026. No macro, syntax, notation, axiom, sorry.
-/
import Derived.Test.YtapflgppmigcdaaGreatDoorRows
import GoSem.ClaimSeven
namespace Go.Proofs.YtapflgppmigcdaaGreatDoor
namespace Rows

/-- THE TIED CARD OF 'tranchelaw52.DependMore'. -/
def dependMoreCard : Claim7 := { stood := { row := dependMoreRow, standIns := [], harness := (true, "3807a012d1152197eb345d7677e7a95269da0284852dc5d2202f012c660f9f9c"), looks := true }, kinds := [], alts := [], laidByText := true, laidKinds := [.data, .data, .data, .data, .sentinel, .sentinel, .pinned], laidTests := true, laidLooks := .later }
def DependMoreCardSaid : Prop := Claim7.holds Tryz.pinned (.plain (OpenSpec.ofChange dependMoreSpec)) dependMoreCard

/-- THE TIED CARD OF 'tranchelaw52.DependGroups'. -/
def dependGroupsCard : Claim7 := { stood := { row := dependGroupsRow, standIns := [], harness := (true, "3807a012d1152197eb345d7677e7a95269da0284852dc5d2202f012c660f9f9c"), looks := true }, kinds := [], alts := [], laidByText := true, laidKinds := [.data, .data, .data, .data, .sentinel, .sentinel, .pinned], laidTests := true, laidLooks := .later }
def DependGroupsCardSaid : Prop := Claim7.holds Tryz.pinned (.plain (OpenSpec.ofChange dependGroupsSpec)) dependGroupsCard

/-- THE TIED CARD OF 'tranchelaw52.DependDivides'. -/
def dependDividesCard : Claim7 := { stood := { row := dependDividesRow, standIns := [], harness := (true, "3807a012d1152197eb345d7677e7a95269da0284852dc5d2202f012c660f9f9c"), looks := true }, kinds := [], alts := [], laidByText := true, laidKinds := [.data, .data, .data, .data, .sentinel, .sentinel, .pinned], laidTests := true, laidLooks := .later }
def DependDividesCardSaid : Prop := Claim7.holds Tryz.pinned (.plain (OpenSpec.ofChange dependDividesSpec)) dependDividesCard

/-- THE TIED CARD OF 'tranchelaw52.DependReadings'. -/
def dependReadingsCard : Claim7 := { stood := { row := dependReadingsRow, standIns := [], harness := (true, "3807a012d1152197eb345d7677e7a95269da0284852dc5d2202f012c660f9f9c"), looks := true }, kinds := [], alts := [], laidByText := true, laidKinds := [.data, .data, .data, .data, .sentinel, .sentinel, .pinned], laidTests := true, laidLooks := .later }
def DependReadingsCardSaid : Prop := Claim7.holds Tryz.pinned (.plain (OpenSpec.ofChange dependReadingsSpec)) dependReadingsCard

/-- THE SECOND FORM's CARD OF 'tranchelaw52.DependMore'. -/
def dependMoreUptoCard : Claim7 := { stood := { row := dependMoreUptoRow, standIns := [], harness := (true, "3807a012d1152197eb345d7677e7a95269da0284852dc5d2202f012c660f9f9c"), looks := true }, kinds := [], alts := [], laidByText := true, laidKinds := [.data, .data, .data, .data, .sentinel, .sentinel, .pinned], laidTests := true, laidLooks := .later }
def DependMoreUptoCardSaid : Prop := Claim7.holds Tryz.pinned (.plain (OpenSpec.upto dependMoreSpec)) dependMoreUptoCard

/-- THE SECOND FORM's CARD OF 'tranchelaw52.DependGroups'. -/
def dependGroupsUptoCard : Claim7 := { stood := { row := dependGroupsUptoRow, standIns := [], harness := (true, "3807a012d1152197eb345d7677e7a95269da0284852dc5d2202f012c660f9f9c"), looks := true }, kinds := [], alts := [], laidByText := true, laidKinds := [.data, .data, .data, .data, .sentinel, .sentinel, .pinned], laidTests := true, laidLooks := .later }
def DependGroupsUptoCardSaid : Prop := Claim7.holds Tryz.pinned (.plain (OpenSpec.upto dependGroupsSpec)) dependGroupsUptoCard

/-- THE SECOND FORM's CARD OF 'tranchelaw52.DependDivides'. -/
def dependDividesUptoCard : Claim7 := { stood := { row := dependDividesUptoRow, standIns := [], harness := (true, "3807a012d1152197eb345d7677e7a95269da0284852dc5d2202f012c660f9f9c"), looks := true }, kinds := [], alts := [], laidByText := true, laidKinds := [.data, .data, .data, .data, .sentinel, .sentinel, .pinned], laidTests := true, laidLooks := .later }
def DependDividesUptoCardSaid : Prop := Claim7.holds Tryz.pinned (.plain (OpenSpec.upto dependDividesSpec)) dependDividesUptoCard

/-- THE SECOND FORM's CARD OF 'tranchelaw52.DependReadings'. -/
def dependReadingsUptoCard : Claim7 := { stood := { row := dependReadingsUptoRow, standIns := [], harness := (true, "3807a012d1152197eb345d7677e7a95269da0284852dc5d2202f012c660f9f9c"), looks := true }, kinds := [], alts := [], laidByText := true, laidKinds := [.data, .data, .data, .data, .sentinel, .sentinel, .pinned], laidTests := true, laidLooks := .later }
def DependReadingsUptoCardSaid : Prop := Claim7.holds Tryz.pinned (.plain (OpenSpec.upto dependReadingsSpec)) dependReadingsUptoCard
end Rows
end Go.Proofs.YtapflgppmigcdaaGreatDoor
