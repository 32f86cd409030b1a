/-
  DERIVED. GIVEN WITH THE SEED: THE CARDS: each row of YtoaceanbddegbaaGreatDoorRows.lean that lists a variable, with what it lists TIED to the program's text (the seventh form; the later family's looks); each row that meets fmt, with fmt's text TOLD by the authors' own Lean function (tested against real Go, not proved from fmt's source: count such statements apart). THE CARD IS WHAT COUNTS. Prove the row's statement (the work); the ties are given (YtoaceanbddegbaaGreatDoorTie.lean); close each card by the builder's one call (the guide's Derived/Test/ToyasCard.lean, 'card_holds'). Laid BY PROGRAM, IN A SANDBOX (cutbox-door.mjs). By AI agents, Wed Nov 11 2026. No macro, syntax, notation, axiom, sorry.
-/
import Derived.Test.YtoaceanbddegbaaGreatDoorRows
import GoSem.ClaimSeven
namespace Go.Proofs.YtoaceanbddegbaaGreatDoor
namespace Rows

/-- THE TIED CARD OF 'tranchelaw52.DependJoins'. -/
def dependJoinsCard : Claim7 := { stood := { row := dependJoinsRow, standIns := [], harness := (true, "d6854520ada5823c7e8352df7a0ab2133b6abe75d810564fddb62d50cc53fd9c"), looks := true }, kinds := [], alts := [], laidByText := true, laidKinds := [.data, .data, .data, .data, .sentinel, .sentinel, .pinned], laidTests := true, laidLooks := .later }
def DependJoinsCardSaid : Prop := Claim7.holds Tryz.pinned (.plain (OpenSpec.ofChange dependJoinsSpec)) dependJoinsCard

/-- THE SECOND FORM's CARD OF 'tranchelaw52.DependJoins'. -/
def dependJoinsUptoCard : Claim7 := { stood := { row := dependJoinsUptoRow, standIns := [], harness := (true, "d6854520ada5823c7e8352df7a0ab2133b6abe75d810564fddb62d50cc53fd9c"), looks := true }, kinds := [], alts := [], laidByText := true, laidKinds := [.data, .data, .data, .data, .sentinel, .sentinel, .pinned], laidTests := true, laidLooks := .later }
def DependJoinsUptoCardSaid : Prop := Claim7.holds Tryz.pinned (.plain (OpenSpec.upto dependJoinsSpec)) dependJoinsUptoCard
end Rows
end Go.Proofs.YtoaceanbddegbaaGreatDoor
