/-
  DERIVED. GIVEN WITH THE SEED: THE CARDS: each row of YtfffdbjfhdkheaaGreatDoorRows.lean that lists a variable, with what it lists TIED to the program's text (the seventh form; the later family's looks); each row that meets fmt, with fmt's text TOLD by the authors' own Lean function (tested against real Go, not proved from fmt's source: count such statements apart). THE CARD IS WHAT COUNTS. Prove the row's statement (the work); the ties are given (YtfffdbjfhdkheaaGreatDoorTie.lean); close each card by the builder's one call (the guide's Derived/Test/ToyasCard.lean, 'card_holds'). Laid BY PROGRAM, IN A SANDBOX (cutbox-door.mjs). By AI agents, Wed Nov 11 2026. No macro, syntax, notation, axiom, sorry.
-/
import Derived.Test.YtfffdbjfhdkheaaGreatDoorRows
import GoSem.ClaimSeven
namespace Go.Proofs.YtfffdbjfhdkheaaGreatDoor
namespace Rows

/-- THE TIED CARD OF 'duepostlaw05.ParamPrints'. -/
def paramPrintsCard : Claim7 := { stood := { row := paramPrintsRow, standIns := [], harness := (true, "76ac68d8406a364706ac3a0485132588a3773bdd0dbc41e44bcf62c24957922f"), looks := false }, kinds := [], alts := [], laidByText := true, laidKinds := [.data, .data, .data, .data, .pinned], laidTests := true, laidLooks := .later }
def ParamPrintsCardSaid : Prop := Claim7.holds Tryz.pinned (.plain (OpenSpec.ofChange paramPrintsSpec)) paramPrintsCard

/-- THE TIED CARD OF 'duepostlaw05.ParamBack'. -/
def paramBackCard : Claim7 := { stood := { row := paramBackRow, standIns := [], harness := (true, "76ac68d8406a364706ac3a0485132588a3773bdd0dbc41e44bcf62c24957922f"), looks := false }, kinds := [], alts := [], laidByText := true, laidKinds := [.data, .data, .data, .data, .pinned], laidTests := true, laidLooks := .later }
def ParamBackCardSaid : Prop := Claim7.holds Tryz.pinned (.plain (OpenSpec.ofChange paramBackSpec)) paramBackCard

/-- THE TIED CARD OF 'duepostlaw05.ParamOrder'. -/
def paramOrderCard : Claim7 := { stood := { row := paramOrderRow, standIns := [], harness := (true, "76ac68d8406a364706ac3a0485132588a3773bdd0dbc41e44bcf62c24957922f"), looks := false }, kinds := [], alts := [], laidByText := true, laidKinds := [.data, .data, .data, .data, .pinned], laidTests := true, laidLooks := .later }
def ParamOrderCardSaid : Prop := Claim7.holds Tryz.pinned (.plain (OpenSpec.ofChange paramOrderSpec)) paramOrderCard

/-- THE TIED CARD OF 'duepostlaw05.ParamRanges'. -/
def paramRangesCard : Claim7 := { stood := { row := paramRangesRow, standIns := [], harness := (true, "76ac68d8406a364706ac3a0485132588a3773bdd0dbc41e44bcf62c24957922f"), looks := false }, kinds := [], alts := [], laidByText := true, laidKinds := [.data, .data, .data, .data, .pinned], laidTests := true, laidLooks := .later }
def ParamRangesCardSaid : Prop := Claim7.holds Tryz.pinned (.plain (OpenSpec.ofChange paramRangesSpec)) paramRangesCard

/-- THE SECOND FORM's CARD OF 'duepostlaw05.ParamPrints'. -/
def paramPrintsUptoCard : Claim7 := { stood := { row := paramPrintsUptoRow, standIns := [], harness := (true, "76ac68d8406a364706ac3a0485132588a3773bdd0dbc41e44bcf62c24957922f"), looks := false }, kinds := [], alts := [], laidByText := true, laidKinds := [.data, .data, .data, .data, .pinned], laidTests := true, laidLooks := .later }
def ParamPrintsUptoCardSaid : Prop := Claim7.holds Tryz.pinned (.plain (OpenSpec.upto paramPrintsSpec)) paramPrintsUptoCard

/-- THE SECOND FORM's CARD OF 'duepostlaw05.ParamBack'. -/
def paramBackUptoCard : Claim7 := { stood := { row := paramBackUptoRow, standIns := [], harness := (true, "76ac68d8406a364706ac3a0485132588a3773bdd0dbc41e44bcf62c24957922f"), looks := false }, kinds := [], alts := [], laidByText := true, laidKinds := [.data, .data, .data, .data, .pinned], laidTests := true, laidLooks := .later }
def ParamBackUptoCardSaid : Prop := Claim7.holds Tryz.pinned (.plain (OpenSpec.upto paramBackSpec)) paramBackUptoCard

/-- THE SECOND FORM's CARD OF 'duepostlaw05.ParamOrder'. -/
def paramOrderUptoCard : Claim7 := { stood := { row := paramOrderUptoRow, standIns := [], harness := (true, "76ac68d8406a364706ac3a0485132588a3773bdd0dbc41e44bcf62c24957922f"), looks := false }, kinds := [], alts := [], laidByText := true, laidKinds := [.data, .data, .data, .data, .pinned], laidTests := true, laidLooks := .later }
def ParamOrderUptoCardSaid : Prop := Claim7.holds Tryz.pinned (.plain (OpenSpec.upto paramOrderSpec)) paramOrderUptoCard

/-- THE SECOND FORM's CARD OF 'duepostlaw05.ParamRanges'. -/
def paramRangesUptoCard : Claim7 := { stood := { row := paramRangesUptoRow, standIns := [], harness := (true, "76ac68d8406a364706ac3a0485132588a3773bdd0dbc41e44bcf62c24957922f"), looks := false }, kinds := [], alts := [], laidByText := true, laidKinds := [.data, .data, .data, .data, .pinned], laidTests := true, laidLooks := .later }
def ParamRangesUptoCardSaid : Prop := Claim7.holds Tryz.pinned (.plain (OpenSpec.upto paramRangesSpec)) paramRangesUptoCard
end Rows
end Go.Proofs.YtfffdbjfhdkheaaGreatDoor
