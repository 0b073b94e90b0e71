/-
  DERIVED. GIVEN WITH THE SEED: THE CARDS: each row of YtfeedokfcebjjaaDoorRows.lean that lists a variable, with what it lists TIED to the program's text (the seventh form; the later family's looks); each row that meets fmt, with fmt's text TOLD by the authors' own Lean function (tested against real Go, not proved from fmt's source: count such statements apart). THE CARD IS WHAT COUNTS. Prove the row's statement (the work); the ties are given (YtfeedokfcebjjaaDoorTie.lean); close each card by the builder's one call (the guide's Derived/Test/ToyasCard.lean, 'card_holds'). Laid BY PROGRAM, IN A SANDBOX (cutbox-door.mjs). By AI agents, Wed Nov 11 2026. No macro, syntax, notation, axiom, sorry.
-/
import Derived.Test.YtfeedokfcebjjaaDoorRows
import GoSem.ClaimSeven
namespace Go.Proofs.YtfeedokfcebjjaaDoor
namespace Rows

/-- THE TIED CARD OF 'duepostlaw07.ReplyTells'. -/
def replyTellsCard : Claim7 := { stood := { row := replyTellsRow, standIns := [], harness := (true, "d3b85ddac7405090e293aeaa40bb68b207f537e090837dd71ac64dbbd0fe74fc"), looks := true }, kinds := [], alts := [], laidByText := true, laidKinds := [.data, .data, .data, .data, .sentinel, .sentinel, .pinned], laidTests := true, laidLooks := .later }
def ReplyTellsCardSaid : Prop := Claim7.holds Tryd.pinned (.plain (OpenSpec.ofChange replyTellsSpec)) replyTellsCard

/-- THE TIED CARD OF 'duepostlaw07.ReplyMade'. -/
def replyMadeCard : Claim7 := { stood := { row := replyMadeRow, standIns := [], harness := (true, "d3b85ddac7405090e293aeaa40bb68b207f537e090837dd71ac64dbbd0fe74fc"), looks := true }, kinds := [], alts := [], laidByText := true, laidKinds := [.data, .data, .data, .data, .sentinel, .sentinel, .pinned], laidTests := true, laidLooks := .later }
def ReplyMadeCardSaid : Prop := Claim7.holds Tryd.pinned (.plain (OpenSpec.ofChange replyMadeSpec)) replyMadeCard

/-- THE TIED CARD OF 'duepostlaw07.ReplyBack'. -/
def replyBackCard : Claim7 := { stood := { row := replyBackRow, standIns := [], harness := (true, "d3b85ddac7405090e293aeaa40bb68b207f537e090837dd71ac64dbbd0fe74fc"), looks := true }, kinds := [], alts := [], laidByText := true, laidKinds := [.data, .data, .data, .data, .sentinel, .sentinel, .pinned], laidTests := true, laidLooks := .later }
def ReplyBackCardSaid : Prop := Claim7.holds Tryd.pinned (.plain (OpenSpec.ofChange replyBackSpec)) replyBackCard

/-- THE TIED CARD OF 'duepostlaw07.ReplyAgain'. -/
def replyAgainCard : Claim7 := { stood := { row := replyAgainRow, standIns := [], harness := (true, "d3b85ddac7405090e293aeaa40bb68b207f537e090837dd71ac64dbbd0fe74fc"), looks := true }, kinds := [], alts := [], laidByText := true, laidKinds := [.data, .data, .data, .data, .sentinel, .sentinel, .pinned], laidTests := true, laidLooks := .later }
def ReplyAgainCardSaid : Prop := Claim7.holds Tryd.pinned (.plain (OpenSpec.ofChange replyAgainSpec)) replyAgainCard

/-- THE TIED CARD OF 'duepostlaw07.ReplyWrong'. -/
def replyWrongCard : Claim7 := { stood := { row := replyWrongRow, standIns := [], harness := (true, "d3b85ddac7405090e293aeaa40bb68b207f537e090837dd71ac64dbbd0fe74fc"), looks := true }, kinds := [], alts := [], laidByText := true, laidKinds := [.data, .data, .data, .data, .sentinel, .sentinel, .pinned], laidTests := true, laidLooks := .later }
def ReplyWrongCardSaid : Prop := Claim7.holds Tryd.pinned (.plain (OpenSpec.ofChange replyWrongSpec)) replyWrongCard

/-- THE SECOND FORM's CARD OF 'duepostlaw07.ReplyTells'. -/
def replyTellsUptoCard : Claim7 := { stood := { row := replyTellsUptoRow, standIns := [], harness := (true, "d3b85ddac7405090e293aeaa40bb68b207f537e090837dd71ac64dbbd0fe74fc"), looks := true }, kinds := [], alts := [], laidByText := true, laidKinds := [.data, .data, .data, .data, .sentinel, .sentinel, .pinned], laidTests := true, laidLooks := .later }
def ReplyTellsUptoCardSaid : Prop := Claim7.holds Tryd.pinned (.plain (OpenSpec.upto replyTellsSpec)) replyTellsUptoCard

/-- THE SECOND FORM's CARD OF 'duepostlaw07.ReplyMade'. -/
def replyMadeUptoCard : Claim7 := { stood := { row := replyMadeUptoRow, standIns := [], harness := (true, "d3b85ddac7405090e293aeaa40bb68b207f537e090837dd71ac64dbbd0fe74fc"), looks := true }, kinds := [], alts := [], laidByText := true, laidKinds := [.data, .data, .data, .data, .sentinel, .sentinel, .pinned], laidTests := true, laidLooks := .later }
def ReplyMadeUptoCardSaid : Prop := Claim7.holds Tryd.pinned (.plain (OpenSpec.upto replyMadeSpec)) replyMadeUptoCard

/-- THE SECOND FORM's CARD OF 'duepostlaw07.ReplyBack'. -/
def replyBackUptoCard : Claim7 := { stood := { row := replyBackUptoRow, standIns := [], harness := (true, "d3b85ddac7405090e293aeaa40bb68b207f537e090837dd71ac64dbbd0fe74fc"), looks := true }, kinds := [], alts := [], laidByText := true, laidKinds := [.data, .data, .data, .data, .sentinel, .sentinel, .pinned], laidTests := true, laidLooks := .later }
def ReplyBackUptoCardSaid : Prop := Claim7.holds Tryd.pinned (.plain (OpenSpec.upto replyBackSpec)) replyBackUptoCard

/-- THE SECOND FORM's CARD OF 'duepostlaw07.ReplyAgain'. -/
def replyAgainUptoCard : Claim7 := { stood := { row := replyAgainUptoRow, standIns := [], harness := (true, "d3b85ddac7405090e293aeaa40bb68b207f537e090837dd71ac64dbbd0fe74fc"), looks := true }, kinds := [], alts := [], laidByText := true, laidKinds := [.data, .data, .data, .data, .sentinel, .sentinel, .pinned], laidTests := true, laidLooks := .later }
def ReplyAgainUptoCardSaid : Prop := Claim7.holds Tryd.pinned (.plain (OpenSpec.upto replyAgainSpec)) replyAgainUptoCard

/-- THE SECOND FORM's CARD OF 'duepostlaw07.ReplyWrong'. -/
def replyWrongUptoCard : Claim7 := { stood := { row := replyWrongUptoRow, standIns := [], harness := (true, "d3b85ddac7405090e293aeaa40bb68b207f537e090837dd71ac64dbbd0fe74fc"), looks := true }, kinds := [], alts := [], laidByText := true, laidKinds := [.data, .data, .data, .data, .sentinel, .sentinel, .pinned], laidTests := true, laidLooks := .later }
def ReplyWrongUptoCardSaid : Prop := Claim7.holds Tryd.pinned (.plain (OpenSpec.upto replyWrongSpec)) replyWrongUptoCard
end Rows
end Go.Proofs.YtfeedokfcebjjaaDoor
