/-
  DERIVED. GIVEN WITH THE SEED: THE CARDS: each row of YtfbpadkjfdedeaaDoorRows.lean that lists a variable, with what it lists TIED to the program's text (the seventh form; the later family's looks); each row that meets fmt, with fmt's text TOLD by the authors' own Lean function (tested against real Go, not proved from fmt's source: count such statements apart). THE CARD IS WHAT COUNTS. Prove the row's statement (the work); the ties are given (YtfbpadkjfdedeaaDoorTie.lean); close each card by the builder's one call (the guide's Derived/Test/ToyasCard.lean, 'card_holds'). Laid BY PROGRAM, IN A SANDBOX (cutbox-door.mjs). By AI agents, Wed Nov 11 2026. No macro, syntax, notation, axiom, sorry.
-/
import Derived.Test.YtfbpadkjfdedeaaDoorRows
import GoSem.ClaimSeven
namespace Go.Proofs.YtfbpadkjfdedeaaDoor
namespace Rows

/-- THE TIED CARD OF 'duepostlaw03.DateTells'. -/
def dateTellsCard : Claim7 := { stood := { row := dateTellsRow, standIns := [], harness := (true, "66ab343ebb3151eae87417bfb7843fe4da8f8f3b8c71c33fdca27916268474f7"), looks := false }, kinds := [], alts := [], laidByText := true, laidKinds := [.data, .data, .data], laidTests := true, laidLooks := .later }
def DateTellsCardSaid : Prop := Claim7.holds Tryd.pinned (.plain (OpenSpec.ofChange dateTellsSpec)) dateTellsCard

/-- THE TIED CARD OF 'duepostlaw03.DateBack'. -/
def dateBackCard : Claim7 := { stood := { row := dateBackRow, standIns := [], harness := (true, "66ab343ebb3151eae87417bfb7843fe4da8f8f3b8c71c33fdca27916268474f7"), looks := false }, kinds := [], alts := [], laidByText := true, laidKinds := [.data, .data, .data], laidTests := true, laidLooks := .later }
def DateBackCardSaid : Prop := Claim7.holds Tryd.pinned (.plain (OpenSpec.ofChange dateBackSpec)) dateBackCard

/-- THE TIED CARD OF 'duepostlaw03.DateGrows'. -/
def dateGrowsCard : Claim7 := { stood := { row := dateGrowsRow, standIns := [], harness := (true, "66ab343ebb3151eae87417bfb7843fe4da8f8f3b8c71c33fdca27916268474f7"), looks := false }, kinds := [], alts := [], laidByText := true, laidKinds := [.data, .data, .data], laidTests := true, laidLooks := .later }
def DateGrowsCardSaid : Prop := Claim7.holds Tryd.pinned (.plain (OpenSpec.ofChange dateGrowsSpec)) dateGrowsCard

/-- THE TIED CARD OF 'duepostlaw03.DateZones'. -/
def dateZonesCard : Claim7 := { stood := { row := dateZonesRow, standIns := [], harness := (true, "66ab343ebb3151eae87417bfb7843fe4da8f8f3b8c71c33fdca27916268474f7"), looks := false }, kinds := [], alts := [], laidByText := true, laidKinds := [.data, .data, .data], laidTests := true, laidLooks := .later }
def DateZonesCardSaid : Prop := Claim7.holds Tryd.pinned (.plain (OpenSpec.ofChange dateZonesSpec)) dateZonesCard

/-- THE TIED CARD OF 'duepostlaw03.DateYears'. -/
def dateYearsCard : Claim7 := { stood := { row := dateYearsRow, standIns := [], harness := (true, "66ab343ebb3151eae87417bfb7843fe4da8f8f3b8c71c33fdca27916268474f7"), looks := false }, kinds := [], alts := [], laidByText := true, laidKinds := [.data, .data, .data], laidTests := true, laidLooks := .later }
def DateYearsCardSaid : Prop := Claim7.holds Tryd.pinned (.plain (OpenSpec.ofChange dateYearsSpec)) dateYearsCard

/-- THE SECOND FORM's CARD OF 'duepostlaw03.DateTells'. -/
def dateTellsUptoCard : Claim7 := { stood := { row := dateTellsUptoRow, standIns := [], harness := (true, "66ab343ebb3151eae87417bfb7843fe4da8f8f3b8c71c33fdca27916268474f7"), looks := false }, kinds := [], alts := [], laidByText := true, laidKinds := [.data, .data, .data], laidTests := true, laidLooks := .later }
def DateTellsUptoCardSaid : Prop := Claim7.holds Tryd.pinned (.plain (OpenSpec.upto dateTellsSpec)) dateTellsUptoCard

/-- THE SECOND FORM's CARD OF 'duepostlaw03.DateBack'. -/
def dateBackUptoCard : Claim7 := { stood := { row := dateBackUptoRow, standIns := [], harness := (true, "66ab343ebb3151eae87417bfb7843fe4da8f8f3b8c71c33fdca27916268474f7"), looks := false }, kinds := [], alts := [], laidByText := true, laidKinds := [.data, .data, .data], laidTests := true, laidLooks := .later }
def DateBackUptoCardSaid : Prop := Claim7.holds Tryd.pinned (.plain (OpenSpec.upto dateBackSpec)) dateBackUptoCard

/-- THE SECOND FORM's CARD OF 'duepostlaw03.DateGrows'. -/
def dateGrowsUptoCard : Claim7 := { stood := { row := dateGrowsUptoRow, standIns := [], harness := (true, "66ab343ebb3151eae87417bfb7843fe4da8f8f3b8c71c33fdca27916268474f7"), looks := false }, kinds := [], alts := [], laidByText := true, laidKinds := [.data, .data, .data], laidTests := true, laidLooks := .later }
def DateGrowsUptoCardSaid : Prop := Claim7.holds Tryd.pinned (.plain (OpenSpec.upto dateGrowsSpec)) dateGrowsUptoCard

/-- THE SECOND FORM's CARD OF 'duepostlaw03.DateZones'. -/
def dateZonesUptoCard : Claim7 := { stood := { row := dateZonesUptoRow, standIns := [], harness := (true, "66ab343ebb3151eae87417bfb7843fe4da8f8f3b8c71c33fdca27916268474f7"), looks := false }, kinds := [], alts := [], laidByText := true, laidKinds := [.data, .data, .data], laidTests := true, laidLooks := .later }
def DateZonesUptoCardSaid : Prop := Claim7.holds Tryd.pinned (.plain (OpenSpec.upto dateZonesSpec)) dateZonesUptoCard

/-- THE SECOND FORM's CARD OF 'duepostlaw03.DateYears'. -/
def dateYearsUptoCard : Claim7 := { stood := { row := dateYearsUptoRow, standIns := [], harness := (true, "66ab343ebb3151eae87417bfb7843fe4da8f8f3b8c71c33fdca27916268474f7"), looks := false }, kinds := [], alts := [], laidByText := true, laidKinds := [.data, .data, .data], laidTests := true, laidLooks := .later }
def DateYearsUptoCardSaid : Prop := Claim7.holds Tryd.pinned (.plain (OpenSpec.upto dateYearsSpec)) dateYearsUptoCard
end Rows
end Go.Proofs.YtfbpadkjfdedeaaDoor
