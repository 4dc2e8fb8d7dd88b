/-
  DERIVED. GIVEN WITH THE SEED: THE CARDS: each row of YtociocengfjioaaDoorRows.lean that lists a variable, with what it lists TIED to the program's text (the seventh form; the later family's looks); each row that meets fmt, with fmt's text TOLD by the authors' own Lean function (tested against real Go, not proved from fmt's source: count such statements apart). THE CARD IS WHAT COUNTS. Prove the row's statement (the work); the ties are given (YtociocengfjioaaDoorTie.lean); close each card by the builder's one call (the guide's Derived/Test/ToyasCard.lean, 'card_holds'). Laid BY PROGRAM, IN A SANDBOX (cutbox-door.mjs). By AI agents, Wed Nov 11 2026. No macro, syntax, notation, axiom, sorry.
-/
import Derived.Test.YtociocengfjioaaDoorRows
import GoSem.ClaimSeven
namespace Go.Proofs.YtociocengfjioaaDoor
namespace Rows

/-- THE TIED CARD OF 'pairinglaw2.RationalMakes'. -/
def rationalMakesCard : Claim7 := { stood := { row := rationalMakesRow, standIns := [], harness := (true, "823736950d50065b73c34202d081c352a740742e7e39b3782b508ae0d58006f0"), looks := false }, kinds := [], alts := [], laidByText := true, laidKinds := [.data, .data, .data], laidTests := true, laidLooks := .later }
def RationalMakesCardSaid : Prop := Claim7.holds Tryd.pinned (.plain (OpenSpec.ofChange rationalMakesSpec)) rationalMakesCard

/-- THE TIED CARD OF 'pairinglaw2.RationalSums'. -/
def rationalSumsCard : Claim7 := { stood := { row := rationalSumsRow, standIns := [], harness := (true, "823736950d50065b73c34202d081c352a740742e7e39b3782b508ae0d58006f0"), looks := false }, kinds := [], alts := [], laidByText := true, laidKinds := [.data, .data, .data], laidTests := true, laidLooks := .later }
def RationalSumsCardSaid : Prop := Claim7.holds Tryd.pinned (.plain (OpenSpec.ofChange rationalSumsSpec)) rationalSumsCard

/-- THE TIED CARD OF 'pairinglaw2.RationalRounding'. -/
def rationalRoundingCard : Claim7 := { stood := { row := rationalRoundingRow, standIns := [], harness := (true, "823736950d50065b73c34202d081c352a740742e7e39b3782b508ae0d58006f0"), looks := false }, kinds := [], alts := [], laidByText := true, laidKinds := [.data, .data, .data], laidTests := true, laidLooks := .later }
def RationalRoundingCardSaid : Prop := Claim7.holds Tryd.pinned (.plain (OpenSpec.ofChange rationalRoundingSpec)) rationalRoundingCard

/-- THE TIED CARD OF 'pairinglaw2.RationalField'. -/
def rationalFieldCard : Claim7 := { stood := { row := rationalFieldRow, standIns := [], harness := (true, "823736950d50065b73c34202d081c352a740742e7e39b3782b508ae0d58006f0"), looks := false }, kinds := [], alts := [], laidByText := true, laidKinds := [.data, .data, .data], laidTests := true, laidLooks := .later }
def RationalFieldCardSaid : Prop := Claim7.holds Tryd.pinned (.plain (OpenSpec.ofChange rationalFieldSpec)) rationalFieldCard

/-- THE TIED CARD OF 'pairinglaw2.RationalLeast'. -/
def rationalLeastCard : Claim7 := { stood := { row := rationalLeastRow, standIns := [], harness := (true, "823736950d50065b73c34202d081c352a740742e7e39b3782b508ae0d58006f0"), looks := false }, kinds := [], alts := [], laidByText := true, laidKinds := [.data, .data, .data], laidTests := true, laidLooks := .later }
def RationalLeastCardSaid : Prop := Claim7.holds Tryd.pinned (.plain (OpenSpec.ofChange rationalLeastSpec)) rationalLeastCard

/-- THE SECOND FORM's CARD OF 'pairinglaw2.RationalMakes'. -/
def rationalMakesUptoCard : Claim7 := { stood := { row := rationalMakesUptoRow, standIns := [], harness := (true, "823736950d50065b73c34202d081c352a740742e7e39b3782b508ae0d58006f0"), looks := false }, kinds := [], alts := [], laidByText := true, laidKinds := [.data, .data, .data], laidTests := true, laidLooks := .later }
def RationalMakesUptoCardSaid : Prop := Claim7.holds Tryd.pinned (.plain (OpenSpec.upto rationalMakesSpec)) rationalMakesUptoCard

/-- THE SECOND FORM's CARD OF 'pairinglaw2.RationalSums'. -/
def rationalSumsUptoCard : Claim7 := { stood := { row := rationalSumsUptoRow, standIns := [], harness := (true, "823736950d50065b73c34202d081c352a740742e7e39b3782b508ae0d58006f0"), looks := false }, kinds := [], alts := [], laidByText := true, laidKinds := [.data, .data, .data], laidTests := true, laidLooks := .later }
def RationalSumsUptoCardSaid : Prop := Claim7.holds Tryd.pinned (.plain (OpenSpec.upto rationalSumsSpec)) rationalSumsUptoCard

/-- THE SECOND FORM's CARD OF 'pairinglaw2.RationalRounding'. -/
def rationalRoundingUptoCard : Claim7 := { stood := { row := rationalRoundingUptoRow, standIns := [], harness := (true, "823736950d50065b73c34202d081c352a740742e7e39b3782b508ae0d58006f0"), looks := false }, kinds := [], alts := [], laidByText := true, laidKinds := [.data, .data, .data], laidTests := true, laidLooks := .later }
def RationalRoundingUptoCardSaid : Prop := Claim7.holds Tryd.pinned (.plain (OpenSpec.upto rationalRoundingSpec)) rationalRoundingUptoCard

/-- THE SECOND FORM's CARD OF 'pairinglaw2.RationalField'. -/
def rationalFieldUptoCard : Claim7 := { stood := { row := rationalFieldUptoRow, standIns := [], harness := (true, "823736950d50065b73c34202d081c352a740742e7e39b3782b508ae0d58006f0"), looks := false }, kinds := [], alts := [], laidByText := true, laidKinds := [.data, .data, .data], laidTests := true, laidLooks := .later }
def RationalFieldUptoCardSaid : Prop := Claim7.holds Tryd.pinned (.plain (OpenSpec.upto rationalFieldSpec)) rationalFieldUptoCard

/-- THE SECOND FORM's CARD OF 'pairinglaw2.RationalLeast'. -/
def rationalLeastUptoCard : Claim7 := { stood := { row := rationalLeastUptoRow, standIns := [], harness := (true, "823736950d50065b73c34202d081c352a740742e7e39b3782b508ae0d58006f0"), looks := false }, kinds := [], alts := [], laidByText := true, laidKinds := [.data, .data, .data], laidTests := true, laidLooks := .later }
def RationalLeastUptoCardSaid : Prop := Claim7.holds Tryd.pinned (.plain (OpenSpec.upto rationalLeastSpec)) rationalLeastUptoCard
end Rows
end Go.Proofs.YtociocengfjioaaDoor
