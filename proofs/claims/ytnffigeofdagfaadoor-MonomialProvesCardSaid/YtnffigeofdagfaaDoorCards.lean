/-
  DERIVED. GIVEN WITH THE SEED: THE CARDS: each row of YtnffigeofdagfaaDoorRows.lean that lists a variable, with what it lists TIED to the program's text (the seventh form; the later family's looks); each row that meets fmt, with fmt's text TOLD by the authors' own Lean function (tested against real Go, not proved from fmt's source: count such statements apart). THE CARD IS WHAT COUNTS. Prove the row's statement (the work); the ties are given (YtnffigeofdagfaaDoorTie.lean); close each card by the builder's one call (the guide's Derived/Test/ToyasCard.lean, 'card_holds'). Laid BY PROGRAM, IN A SANDBOX (cutbox-door.mjs). By AI agents, Wed Nov 11 2026. No macro, syntax, notation, axiom, sorry.
-/
import Derived.Test.YtnffigeofdagfaaDoorRows
import GoSem.ClaimSeven
namespace Go.Proofs.YtnffigeofdagfaaDoor
namespace Rows

/-- THE TIED CARD OF 'semigrouplaw35.MonomialAgrees'. -/
def monomialAgreesCard : Claim7 := { stood := { row := monomialAgreesRow, standIns := [], harness := (true, "27fb58f12b35876b51a126678fe4a8124abfc5564a3179cfe148ab07992e93f4"), looks := false }, kinds := [], alts := [], laidByText := true, laidKinds := [.data], laidTests := true, laidLooks := .later }
def MonomialAgreesCardSaid : Prop := Claim7.holds Tryd.pinned (.plain (OpenSpec.ofChange monomialAgreesSpec)) monomialAgreesCard

/-- THE TIED CARD OF 'semigrouplaw35.MonomialSides'. -/
def monomialSidesCard : Claim7 := { stood := { row := monomialSidesRow, standIns := [], harness := (true, "27fb58f12b35876b51a126678fe4a8124abfc5564a3179cfe148ab07992e93f4"), looks := false }, kinds := [], alts := [], laidByText := true, laidKinds := [.data], laidTests := true, laidLooks := .later }
def MonomialSidesCardSaid : Prop := Claim7.holds Tryd.pinned (.plain (OpenSpec.ofChange monomialSidesSpec)) monomialSidesCard

/-- THE TIED CARD OF 'semigrouplaw35.MonomialSidesRaw'. -/
def monomialSidesRawCard : Claim7 := { stood := { row := monomialSidesRawRow, standIns := [], harness := (true, "27fb58f12b35876b51a126678fe4a8124abfc5564a3179cfe148ab07992e93f4"), looks := false }, kinds := [], alts := [], laidByText := true, laidKinds := [.data], laidTests := true, laidLooks := .later }
def MonomialSidesRawCardSaid : Prop := Claim7.holds Tryd.pinned (.plain (OpenSpec.ofChange monomialSidesRawSpec)) monomialSidesRawCard

/-- THE TIED CARD OF 'semigrouplaw35.MonomialProves'. -/
def monomialProvesCard : Claim7 := { stood := { row := monomialProvesRow, standIns := [], harness := (true, "27fb58f12b35876b51a126678fe4a8124abfc5564a3179cfe148ab07992e93f4"), looks := false }, kinds := [], alts := [], laidByText := true, laidKinds := [.data], laidTests := true, laidLooks := .later }
def MonomialProvesCardSaid : Prop := Claim7.holds Tryd.pinned (.plain (OpenSpec.ofChange monomialProvesSpec)) monomialProvesCard

/-- THE SECOND FORM's CARD OF 'semigrouplaw35.MonomialAgrees'. -/
def monomialAgreesUptoCard : Claim7 := { stood := { row := monomialAgreesUptoRow, standIns := [], harness := (true, "27fb58f12b35876b51a126678fe4a8124abfc5564a3179cfe148ab07992e93f4"), looks := false }, kinds := [], alts := [], laidByText := true, laidKinds := [.data], laidTests := true, laidLooks := .later }
def MonomialAgreesUptoCardSaid : Prop := Claim7.holds Tryd.pinned (.plain (OpenSpec.upto monomialAgreesSpec)) monomialAgreesUptoCard

/-- THE SECOND FORM's CARD OF 'semigrouplaw35.MonomialSides'. -/
def monomialSidesUptoCard : Claim7 := { stood := { row := monomialSidesUptoRow, standIns := [], harness := (true, "27fb58f12b35876b51a126678fe4a8124abfc5564a3179cfe148ab07992e93f4"), looks := false }, kinds := [], alts := [], laidByText := true, laidKinds := [.data], laidTests := true, laidLooks := .later }
def MonomialSidesUptoCardSaid : Prop := Claim7.holds Tryd.pinned (.plain (OpenSpec.upto monomialSidesSpec)) monomialSidesUptoCard

/-- THE SECOND FORM's CARD OF 'semigrouplaw35.MonomialSidesRaw'. -/
def monomialSidesRawUptoCard : Claim7 := { stood := { row := monomialSidesRawUptoRow, standIns := [], harness := (true, "27fb58f12b35876b51a126678fe4a8124abfc5564a3179cfe148ab07992e93f4"), looks := false }, kinds := [], alts := [], laidByText := true, laidKinds := [.data], laidTests := true, laidLooks := .later }
def MonomialSidesRawUptoCardSaid : Prop := Claim7.holds Tryd.pinned (.plain (OpenSpec.upto monomialSidesRawSpec)) monomialSidesRawUptoCard

/-- THE SECOND FORM's CARD OF 'semigrouplaw35.MonomialProves'. -/
def monomialProvesUptoCard : Claim7 := { stood := { row := monomialProvesUptoRow, standIns := [], harness := (true, "27fb58f12b35876b51a126678fe4a8124abfc5564a3179cfe148ab07992e93f4"), looks := false }, kinds := [], alts := [], laidByText := true, laidKinds := [.data], laidTests := true, laidLooks := .later }
def MonomialProvesUptoCardSaid : Prop := Claim7.holds Tryd.pinned (.plain (OpenSpec.upto monomialProvesSpec)) monomialProvesUptoCard
end Rows
end Go.Proofs.YtnffigeofdagfaaDoor
