/-
  DERIVED. GIVEN WITH THE SEED: THE CARDS: each row of YtdgbealknnmkoaaGreatDoorRows.lean that lists a variable, with what it lists TIED to the program's text (the seventh form; the later family's looks); each row that meets fmt, with fmt's text TOLD by the authors' own Lean function (tested against real Go, not proved from fmt's source: count such statements apart). THE CARD IS WHAT COUNTS. Prove the row's statement (the work); the ties are given (YtdgbealknnmkoaaGreatDoorTie.lean); close each card by the builder's one call (the guide's Derived/Test/ToyasCard.lean, 'card_holds'). Laid BY PROGRAM, IN A SANDBOX (cutbox-door.mjs). By AI agents, Wed Nov 11 2026. No macro, syntax, notation, axiom, sorry.
-/
import Derived.Test.YtdgbealknnmkoaaGreatDoorRows
import GoSem.ClaimSeven
namespace Go.Proofs.YtdgbealknnmkoaaGreatDoor
namespace Rows

/-- THE TIED CARD OF 'pairinglaw32.JournalEncodes'. -/
def journalEncodesCard : Claim7 := { stood := { row := journalEncodesRow, standIns := [], harness := (true, "460a44166c7bcf4f0ff98b82f8e232709d10f677984210fa140999eca9a4ce11"), looks := false }, kinds := [], alts := [], laidByText := true, laidKinds := [.data, .data, .data, .data, .pinned], laidTests := true, laidLooks := .later }
def JournalEncodesCardSaid : Prop := Claim7.holds Tryz.pinned (.plain (OpenSpec.ofChange journalEncodesSpec)) journalEncodesCard

/-- THE TIED CARD OF 'pairinglaw32.JournalDecodes'. -/
def journalDecodesCard : Claim7 := { stood := { row := journalDecodesRow, standIns := [], harness := (true, "460a44166c7bcf4f0ff98b82f8e232709d10f677984210fa140999eca9a4ce11"), looks := false }, kinds := [], alts := [], laidByText := true, laidKinds := [.data, .data, .data, .data, .pinned], laidTests := true, laidLooks := .later }
def JournalDecodesCardSaid : Prop := Claim7.holds Tryz.pinned (.plain (OpenSpec.ofChange journalDecodesSpec)) journalDecodesCard

/-- THE TIED CARD OF 'pairinglaw32.JournalAppends'. -/
def journalAppendsCard : Claim7 := { stood := { row := journalAppendsRow, standIns := [], harness := (true, "460a44166c7bcf4f0ff98b82f8e232709d10f677984210fa140999eca9a4ce11"), looks := false }, kinds := [], alts := [], laidByText := true, laidKinds := [.data, .data, .data, .data, .pinned], laidTests := true, laidLooks := .later }
def JournalAppendsCardSaid : Prop := Claim7.holds Tryz.pinned (.plain (OpenSpec.ofChange journalAppendsSpec)) journalAppendsCard

/-- THE TIED CARD OF 'pairinglaw32.JournalReads'. -/
def journalReadsCard : Claim7 := { stood := { row := journalReadsRow, standIns := [], harness := (true, "460a44166c7bcf4f0ff98b82f8e232709d10f677984210fa140999eca9a4ce11"), looks := false }, kinds := [], alts := [], laidByText := true, laidKinds := [.data, .data, .data, .data, .pinned], laidTests := true, laidLooks := .later }
def JournalReadsCardSaid : Prop := Claim7.holds Tryz.pinned (.plain (OpenSpec.ofChange journalReadsSpec)) journalReadsCard

/-- THE TIED CARD OF 'pairinglaw32.JournalFrames'. -/
def journalFramesCard : Claim7 := { stood := { row := journalFramesRow, standIns := [], harness := (true, "460a44166c7bcf4f0ff98b82f8e232709d10f677984210fa140999eca9a4ce11"), looks := false }, kinds := [], alts := [], laidByText := true, laidKinds := [.data, .data, .data, .data, .pinned], laidTests := true, laidLooks := .later }
def JournalFramesCardSaid : Prop := Claim7.holds Tryz.pinned (.plain (OpenSpec.ofChange journalFramesSpec)) journalFramesCard

/-- THE TIED CARD OF 'pairinglaw32.JournalCrashes'. -/
def journalCrashesCard : Claim7 := { stood := { row := journalCrashesRow, standIns := [], harness := (true, "460a44166c7bcf4f0ff98b82f8e232709d10f677984210fa140999eca9a4ce11"), looks := false }, kinds := [], alts := [], laidByText := true, laidKinds := [.data, .data, .data, .data, .pinned], laidTests := true, laidLooks := .later }
def JournalCrashesCardSaid : Prop := Claim7.holds Tryz.pinned (.plain (OpenSpec.ofChange journalCrashesSpec)) journalCrashesCard

/-- THE TIED CARD OF 'pairinglaw32.JournalReplays'. -/
def journalReplaysCard : Claim7 := { stood := { row := journalReplaysRow, standIns := [], harness := (true, "460a44166c7bcf4f0ff98b82f8e232709d10f677984210fa140999eca9a4ce11"), looks := false }, kinds := [], alts := [], laidByText := true, laidKinds := [.data, .data, .data, .data, .pinned], laidTests := true, laidLooks := .later }
def JournalReplaysCardSaid : Prop := Claim7.holds Tryz.pinned (.plain (OpenSpec.ofChange journalReplaysSpec)) journalReplaysCard

/-- THE TIED CARD OF 'pairinglaw32.JournalContinues'. -/
def journalContinuesCard : Claim7 := { stood := { row := journalContinuesRow, standIns := [], harness := (true, "460a44166c7bcf4f0ff98b82f8e232709d10f677984210fa140999eca9a4ce11"), looks := false }, kinds := [], alts := [], laidByText := true, laidKinds := [.data, .data, .data, .data, .pinned], laidTests := true, laidLooks := .later }
def JournalContinuesCardSaid : Prop := Claim7.holds Tryz.pinned (.plain (OpenSpec.ofChange journalContinuesSpec)) journalContinuesCard

/-- THE SECOND FORM's CARD OF 'pairinglaw32.JournalEncodes'. -/
def journalEncodesUptoCard : Claim7 := { stood := { row := journalEncodesUptoRow, standIns := [], harness := (true, "460a44166c7bcf4f0ff98b82f8e232709d10f677984210fa140999eca9a4ce11"), looks := false }, kinds := [], alts := [], laidByText := true, laidKinds := [.data, .data, .data, .data, .pinned], laidTests := true, laidLooks := .later }
def JournalEncodesUptoCardSaid : Prop := Claim7.holds Tryz.pinned (.plain (OpenSpec.upto journalEncodesSpec)) journalEncodesUptoCard

/-- THE SECOND FORM's CARD OF 'pairinglaw32.JournalDecodes'. -/
def journalDecodesUptoCard : Claim7 := { stood := { row := journalDecodesUptoRow, standIns := [], harness := (true, "460a44166c7bcf4f0ff98b82f8e232709d10f677984210fa140999eca9a4ce11"), looks := false }, kinds := [], alts := [], laidByText := true, laidKinds := [.data, .data, .data, .data, .pinned], laidTests := true, laidLooks := .later }
def JournalDecodesUptoCardSaid : Prop := Claim7.holds Tryz.pinned (.plain (OpenSpec.upto journalDecodesSpec)) journalDecodesUptoCard

/-- THE SECOND FORM's CARD OF 'pairinglaw32.JournalAppends'. -/
def journalAppendsUptoCard : Claim7 := { stood := { row := journalAppendsUptoRow, standIns := [], harness := (true, "460a44166c7bcf4f0ff98b82f8e232709d10f677984210fa140999eca9a4ce11"), looks := false }, kinds := [], alts := [], laidByText := true, laidKinds := [.data, .data, .data, .data, .pinned], laidTests := true, laidLooks := .later }
def JournalAppendsUptoCardSaid : Prop := Claim7.holds Tryz.pinned (.plain (OpenSpec.upto journalAppendsSpec)) journalAppendsUptoCard

/-- THE SECOND FORM's CARD OF 'pairinglaw32.JournalReads'. -/
def journalReadsUptoCard : Claim7 := { stood := { row := journalReadsUptoRow, standIns := [], harness := (true, "460a44166c7bcf4f0ff98b82f8e232709d10f677984210fa140999eca9a4ce11"), looks := false }, kinds := [], alts := [], laidByText := true, laidKinds := [.data, .data, .data, .data, .pinned], laidTests := true, laidLooks := .later }
def JournalReadsUptoCardSaid : Prop := Claim7.holds Tryz.pinned (.plain (OpenSpec.upto journalReadsSpec)) journalReadsUptoCard

/-- THE SECOND FORM's CARD OF 'pairinglaw32.JournalFrames'. -/
def journalFramesUptoCard : Claim7 := { stood := { row := journalFramesUptoRow, standIns := [], harness := (true, "460a44166c7bcf4f0ff98b82f8e232709d10f677984210fa140999eca9a4ce11"), looks := false }, kinds := [], alts := [], laidByText := true, laidKinds := [.data, .data, .data, .data, .pinned], laidTests := true, laidLooks := .later }
def JournalFramesUptoCardSaid : Prop := Claim7.holds Tryz.pinned (.plain (OpenSpec.upto journalFramesSpec)) journalFramesUptoCard

/-- THE SECOND FORM's CARD OF 'pairinglaw32.JournalCrashes'. -/
def journalCrashesUptoCard : Claim7 := { stood := { row := journalCrashesUptoRow, standIns := [], harness := (true, "460a44166c7bcf4f0ff98b82f8e232709d10f677984210fa140999eca9a4ce11"), looks := false }, kinds := [], alts := [], laidByText := true, laidKinds := [.data, .data, .data, .data, .pinned], laidTests := true, laidLooks := .later }
def JournalCrashesUptoCardSaid : Prop := Claim7.holds Tryz.pinned (.plain (OpenSpec.upto journalCrashesSpec)) journalCrashesUptoCard

/-- THE SECOND FORM's CARD OF 'pairinglaw32.JournalReplays'. -/
def journalReplaysUptoCard : Claim7 := { stood := { row := journalReplaysUptoRow, standIns := [], harness := (true, "460a44166c7bcf4f0ff98b82f8e232709d10f677984210fa140999eca9a4ce11"), looks := false }, kinds := [], alts := [], laidByText := true, laidKinds := [.data, .data, .data, .data, .pinned], laidTests := true, laidLooks := .later }
def JournalReplaysUptoCardSaid : Prop := Claim7.holds Tryz.pinned (.plain (OpenSpec.upto journalReplaysSpec)) journalReplaysUptoCard

/-- THE SECOND FORM's CARD OF 'pairinglaw32.JournalContinues'. -/
def journalContinuesUptoCard : Claim7 := { stood := { row := journalContinuesUptoRow, standIns := [], harness := (true, "460a44166c7bcf4f0ff98b82f8e232709d10f677984210fa140999eca9a4ce11"), looks := false }, kinds := [], alts := [], laidByText := true, laidKinds := [.data, .data, .data, .data, .pinned], laidTests := true, laidLooks := .later }
def JournalContinuesUptoCardSaid : Prop := Claim7.holds Tryz.pinned (.plain (OpenSpec.upto journalContinuesSpec)) journalContinuesUptoCard
end Rows
end Go.Proofs.YtdgbealknnmkoaaGreatDoor
