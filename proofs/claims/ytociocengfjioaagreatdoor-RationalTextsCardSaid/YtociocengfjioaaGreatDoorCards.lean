/-
  DERIVED. GIVEN WITH THE SEED: THE CARDS: each row of YtociocengfjioaaGreatDoorRows.lean that lists a variable, with what it lists TIED to the program's text (the seventh form; the later family's looks); each row that meets fmt, with fmt's text TOLD by the authors' own Lean function (tested against real Go, not proved from fmt's source: count such statements apart). THE CARD IS WHAT COUNTS. Prove the row's statement (the work); the ties are given (YtociocengfjioaaGreatDoorTie.lean); close each card by the builder's one call (the guide's Derived/Test/ToyasCard.lean, 'card_holds'). Laid BY PROGRAM, IN A SANDBOX (cutbox-door.mjs). By AI agents, Wed Nov 11 2026. No macro, syntax, notation, axiom, sorry.
-/
import Derived.Test.YtociocengfjioaaGreatDoorRows
import GoSem.ClaimSeven
namespace Go.Proofs.YtociocengfjioaaGreatDoor
namespace Rows

/-- THE TIED CARD OF 'pairinglaw2.RationalArithmetic'. -/
def rationalArithmeticCard : Claim7 := { stood := { row := rationalArithmeticRow, standIns := [], harness := (true, "90d1173b49b08166a8ef2a1ab50b5fff1e047ae1c7bc0408904eb3b7ad04bd00"), looks := false }, kinds := [], alts := [], laidByText := true, laidKinds := [.data, .data, .data], laidTests := true, laidLooks := .later }
def RationalArithmeticCardSaid : Prop := Claim7.holds Tryz.pinned (.plain (OpenSpec.ofChange rationalArithmeticSpec)) rationalArithmeticCard

/-- THE TIED CARD OF 'pairinglaw2.RationalSimplest'. -/
def rationalSimplestCard : Claim7 := { stood := { row := rationalSimplestRow, standIns := [], harness := (true, "90d1173b49b08166a8ef2a1ab50b5fff1e047ae1c7bc0408904eb3b7ad04bd00"), looks := false }, kinds := [], alts := [], laidByText := true, laidKinds := [.data, .data, .data], laidTests := true, laidLooks := .later }
def RationalSimplestCardSaid : Prop := Claim7.holds Tryz.pinned (.plain (OpenSpec.ofChange rationalSimplestSpec)) rationalSimplestCard

/-- THE TIED CARD OF 'pairinglaw2.RationalDecimals'. -/
def rationalDecimalsCard : Claim7 := { stood := { row := rationalDecimalsRow, standIns := [], harness := (true, "90d1173b49b08166a8ef2a1ab50b5fff1e047ae1c7bc0408904eb3b7ad04bd00"), looks := false }, kinds := [], alts := [], laidByText := true, laidKinds := [.data, .data, .data], laidTests := true, laidLooks := .later }
def RationalDecimalsCardSaid : Prop := Claim7.holds Tryz.pinned (.plain (OpenSpec.ofChange rationalDecimalsSpec)) rationalDecimalsCard

/-- THE TIED CARD OF 'pairinglaw2.RationalTexts'. -/
def rationalTextsCard : Claim7 := { stood := { row := rationalTextsRow, standIns := [], harness := (true, "90d1173b49b08166a8ef2a1ab50b5fff1e047ae1c7bc0408904eb3b7ad04bd00"), looks := false }, kinds := [], alts := [], laidByText := true, laidKinds := [.data, .data, .data, .data, .pinned], laidTests := true, laidLooks := .later }
def RationalTextsCardSaid : Prop := Claim7.holds Tryz.pinned (.plain (OpenSpec.ofChange rationalTextsSpec)) rationalTextsCard

/-- THE SECOND FORM's CARD OF 'pairinglaw2.RationalArithmetic'. -/
def rationalArithmeticUptoCard : Claim7 := { stood := { row := rationalArithmeticUptoRow, standIns := [], harness := (true, "90d1173b49b08166a8ef2a1ab50b5fff1e047ae1c7bc0408904eb3b7ad04bd00"), looks := false }, kinds := [], alts := [], laidByText := true, laidKinds := [.data, .data, .data], laidTests := true, laidLooks := .later }
def RationalArithmeticUptoCardSaid : Prop := Claim7.holds Tryz.pinned (.plain (OpenSpec.upto rationalArithmeticSpec)) rationalArithmeticUptoCard

/-- THE SECOND FORM's CARD OF 'pairinglaw2.RationalSimplest'. -/
def rationalSimplestUptoCard : Claim7 := { stood := { row := rationalSimplestUptoRow, standIns := [], harness := (true, "90d1173b49b08166a8ef2a1ab50b5fff1e047ae1c7bc0408904eb3b7ad04bd00"), looks := false }, kinds := [], alts := [], laidByText := true, laidKinds := [.data, .data, .data], laidTests := true, laidLooks := .later }
def RationalSimplestUptoCardSaid : Prop := Claim7.holds Tryz.pinned (.plain (OpenSpec.upto rationalSimplestSpec)) rationalSimplestUptoCard

/-- THE SECOND FORM's CARD OF 'pairinglaw2.RationalDecimals'. -/
def rationalDecimalsUptoCard : Claim7 := { stood := { row := rationalDecimalsUptoRow, standIns := [], harness := (true, "90d1173b49b08166a8ef2a1ab50b5fff1e047ae1c7bc0408904eb3b7ad04bd00"), looks := false }, kinds := [], alts := [], laidByText := true, laidKinds := [.data, .data, .data], laidTests := true, laidLooks := .later }
def RationalDecimalsUptoCardSaid : Prop := Claim7.holds Tryz.pinned (.plain (OpenSpec.upto rationalDecimalsSpec)) rationalDecimalsUptoCard

/-- THE SECOND FORM's CARD OF 'pairinglaw2.RationalTexts'. -/
def rationalTextsUptoCard : Claim7 := { stood := { row := rationalTextsUptoRow, standIns := [], harness := (true, "90d1173b49b08166a8ef2a1ab50b5fff1e047ae1c7bc0408904eb3b7ad04bd00"), looks := false }, kinds := [], alts := [], laidByText := true, laidKinds := [.data, .data, .data, .data, .pinned], laidTests := true, laidLooks := .later }
def RationalTextsUptoCardSaid : Prop := Claim7.holds Tryz.pinned (.plain (OpenSpec.upto rationalTextsSpec)) rationalTextsUptoCard
end Rows
end Go.Proofs.YtociocengfjioaaGreatDoor
