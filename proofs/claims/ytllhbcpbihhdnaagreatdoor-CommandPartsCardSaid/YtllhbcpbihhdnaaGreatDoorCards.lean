/-
  DERIVED. GIVEN WITH THE SEED: THE CARDS: each row of YtllhbcpbihhdnaaGreatDoorRows.lean that lists a variable, with what it lists TIED to the program's text (the seventh form; the later family's looks); each row that meets fmt, with fmt's text TOLD by the authors' own Lean function (tested against real Go, not proved from fmt's source: count such statements apart). THE CARD IS WHAT COUNTS. Prove the row's statement (the work); the ties are given (YtllhbcpbihhdnaaGreatDoorTie.lean); close each card by the builder's one call (the guide's Derived/Test/ToyasCard.lean, 'card_holds'). Laid BY PROGRAM, IN A SANDBOX (cutbox-door.mjs). By AI agents, Wed Nov 11 2026. No macro, syntax, notation, axiom, sorry.
-/
import Derived.Test.YtllhbcpbihhdnaaGreatDoorRows
import GoSem.ClaimSeven
namespace Go.Proofs.YtllhbcpbihhdnaaGreatDoor
namespace Rows

/-- THE TIED CARD OF 'duepostlaw06.CommandBack'. -/
def commandBackCard : Claim7 := { stood := { row := commandBackRow, standIns := [], harness := (true, "f5e1db7bd3d5e1becff12022667171e783958458cebef33d660a38c019c3777b"), looks := false }, kinds := [], alts := [], laidByText := true, laidKinds := [.data, .data, .data, .data, .pinned, .pinned], laidTests := true, laidLooks := .later }
def CommandBackCardSaid : Prop := Claim7.holds Tryz.pinned (.plain (OpenSpec.ofChange commandBackSpec)) commandBackCard

/-- THE TIED CARD OF 'duepostlaw06.CommandLetters'. -/
def commandLettersCard : Claim7 := { stood := { row := commandLettersRow, standIns := [], harness := (true, "f5e1db7bd3d5e1becff12022667171e783958458cebef33d660a38c019c3777b"), looks := false }, kinds := [], alts := [], laidByText := true, laidKinds := [.data, .data, .data, .data, .pinned, .pinned], laidTests := true, laidLooks := .later }
def CommandLettersCardSaid : Prop := Claim7.holds Tryz.pinned (.plain (OpenSpec.ofChange commandLettersSpec)) commandLettersCard

/-- THE TIED CARD OF 'duepostlaw06.CommandParts'. -/
def commandPartsCard : Claim7 := { stood := { row := commandPartsRow, standIns := [], harness := (true, "f5e1db7bd3d5e1becff12022667171e783958458cebef33d660a38c019c3777b"), looks := false }, kinds := [], alts := [], laidByText := true, laidKinds := [.data, .data, .data, .data, .pinned, .pinned], laidTests := true, laidLooks := .later }
def CommandPartsCardSaid : Prop := Claim7.holds Tryz.pinned (.plain (OpenSpec.ofChange commandPartsSpec)) commandPartsCard

/-- THE TIED CARD OF 'duepostlaw06.CommandNone'. -/
def commandNoneCard : Claim7 := { stood := { row := commandNoneRow, standIns := [], harness := (true, "f5e1db7bd3d5e1becff12022667171e783958458cebef33d660a38c019c3777b"), looks := false }, kinds := [], alts := [], laidByText := true, laidKinds := [.data, .data, .data, .data, .pinned, .pinned], laidTests := true, laidLooks := .later }
def CommandNoneCardSaid : Prop := Claim7.holds Tryz.pinned (.plain (OpenSpec.ofChange commandNoneSpec)) commandNoneCard

/-- THE SECOND FORM's CARD OF 'duepostlaw06.CommandBack'. -/
def commandBackUptoCard : Claim7 := { stood := { row := commandBackUptoRow, standIns := [], harness := (true, "f5e1db7bd3d5e1becff12022667171e783958458cebef33d660a38c019c3777b"), looks := false }, kinds := [], alts := [], laidByText := true, laidKinds := [.data, .data, .data, .data, .pinned, .pinned], laidTests := true, laidLooks := .later }
def CommandBackUptoCardSaid : Prop := Claim7.holds Tryz.pinned (.plain (OpenSpec.upto commandBackSpec)) commandBackUptoCard

/-- THE SECOND FORM's CARD OF 'duepostlaw06.CommandLetters'. -/
def commandLettersUptoCard : Claim7 := { stood := { row := commandLettersUptoRow, standIns := [], harness := (true, "f5e1db7bd3d5e1becff12022667171e783958458cebef33d660a38c019c3777b"), looks := false }, kinds := [], alts := [], laidByText := true, laidKinds := [.data, .data, .data, .data, .pinned, .pinned], laidTests := true, laidLooks := .later }
def CommandLettersUptoCardSaid : Prop := Claim7.holds Tryz.pinned (.plain (OpenSpec.upto commandLettersSpec)) commandLettersUptoCard

/-- THE SECOND FORM's CARD OF 'duepostlaw06.CommandParts'. -/
def commandPartsUptoCard : Claim7 := { stood := { row := commandPartsUptoRow, standIns := [], harness := (true, "f5e1db7bd3d5e1becff12022667171e783958458cebef33d660a38c019c3777b"), looks := false }, kinds := [], alts := [], laidByText := true, laidKinds := [.data, .data, .data, .data, .pinned, .pinned], laidTests := true, laidLooks := .later }
def CommandPartsUptoCardSaid : Prop := Claim7.holds Tryz.pinned (.plain (OpenSpec.upto commandPartsSpec)) commandPartsUptoCard

/-- THE SECOND FORM's CARD OF 'duepostlaw06.CommandNone'. -/
def commandNoneUptoCard : Claim7 := { stood := { row := commandNoneUptoRow, standIns := [], harness := (true, "f5e1db7bd3d5e1becff12022667171e783958458cebef33d660a38c019c3777b"), looks := false }, kinds := [], alts := [], laidByText := true, laidKinds := [.data, .data, .data, .data, .pinned, .pinned], laidTests := true, laidLooks := .later }
def CommandNoneUptoCardSaid : Prop := Claim7.holds Tryz.pinned (.plain (OpenSpec.upto commandNoneSpec)) commandNoneUptoCard
end Rows
end Go.Proofs.YtllhbcpbihhdnaaGreatDoor
