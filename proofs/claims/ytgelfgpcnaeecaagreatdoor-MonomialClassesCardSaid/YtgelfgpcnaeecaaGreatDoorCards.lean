/-
  DERIVED. GIVEN WITH THE SEED: THE CARDS: each row of YtgelfgpcnaeecaaGreatDoorRows.lean that lists a variable, with what it lists TIED to the program's text (the seventh form; the later family's looks); each row that meets fmt, with fmt's text TOLD by the authors' own Lean function (tested against real Go, not proved from fmt's source: count such statements apart). THE CARD IS WHAT COUNTS. Prove the row's statement (the work); the ties are given (YtgelfgpcnaeecaaGreatDoorTie.lean); close each card by the builder's one call (the guide's Derived/Test/ToyasCard.lean, 'card_holds'). Laid BY PROGRAM, IN A SANDBOX (cutbox-door.mjs). By AI agents, Wed Nov 11 2026. No macro, syntax, notation, axiom, sorry.
-/
import Derived.Test.YtgelfgpcnaeecaaGreatDoorRows
import GoSem.ClaimSeven
namespace Go.Proofs.YtgelfgpcnaeecaaGreatDoor
namespace Rows

/-- THE TIED CARD OF 'semigrouplaw35.MonomialClasses'. -/
def monomialClassesCard : Claim7 := { stood := { row := monomialClassesRow, standIns := [], harness := (true, "fe80b129915e9b22e2509ef3a35ba40ade71bb2c3f5138b79a8efea1fca646e9"), looks := false }, kinds := [], alts := [], laidByText := true, laidKinds := [.data], laidTests := true, laidLooks := .later }
def MonomialClassesCardSaid : Prop := Claim7.holds Tryz.pinned (.plain (OpenSpec.ofChange monomialClassesSpec)) monomialClassesCard

/-- THE SECOND FORM's CARD OF 'semigrouplaw35.MonomialClasses'. -/
def monomialClassesUptoCard : Claim7 := { stood := { row := monomialClassesUptoRow, standIns := [], harness := (true, "fe80b129915e9b22e2509ef3a35ba40ade71bb2c3f5138b79a8efea1fca646e9"), looks := false }, kinds := [], alts := [], laidByText := true, laidKinds := [.data], laidTests := true, laidLooks := .later }
def MonomialClassesUptoCardSaid : Prop := Claim7.holds Tryz.pinned (.plain (OpenSpec.upto monomialClassesSpec)) monomialClassesUptoCard
end Rows
end Go.Proofs.YtgelfgpcnaeecaaGreatDoor
