/-
  DERIVED. GIVEN WITH THE SEED: THE CARDS: each row of YtmkfdoomoeiibaaDoorRows.lean that lists a variable, with what it lists TIED to the program's text (the seventh form; the later family's looks); each row that meets fmt, with fmt's text TOLD by the authors' own Lean function (tested against real Go, not proved from fmt's source: count such statements apart). THE CARD IS WHAT COUNTS. Prove the row's statement (the work); the ties are given (YtmkfdoomoeiibaaDoorTie.lean); close each card by the builder's one call (the guide's Derived/Test/ToyasCard.lean, 'card_holds'). Laid BY PROGRAM, IN A SANDBOX (cutbox-door.mjs). By AI agents, Wed Nov 11 2026. No macro, syntax, notation, axiom, sorry.
-/
import Derived.Test.YtmkfdoomoeiibaaDoorRows
import GoSem.ClaimSeven
namespace Go.Proofs.YtmkfdoomoeiibaaDoor
namespace Rows

/-- THE TIED CARD OF 'stadholderlaw10.OwedTexts'. -/
def owedTextsCard : Claim7 := { stood := { row := owedTextsRow, standIns := [], harness := (true, "e25fd8081442c27872d3e88def8f26cf86809618c0ccef3542224dbad28b39ca"), looks := false }, kinds := [], alts := [], laidByText := true, laidKinds := [.data, .data, .data], laidTests := true, laidLooks := .later }
def OwedTextsCardSaid : Prop := Claim7.holds Tryd.pinned (.plain (OpenSpec.ofChange owedTextsSpec)) owedTextsCard

/-- THE TIED CARD OF 'stadholderlaw10.OwedFront'. -/
def owedFrontCard : Claim7 := { stood := { row := owedFrontRow, standIns := [], harness := (true, "e25fd8081442c27872d3e88def8f26cf86809618c0ccef3542224dbad28b39ca"), looks := false }, kinds := [], alts := [], laidByText := true, laidKinds := [.data, .data, .data], laidTests := true, laidLooks := .later }
def OwedFrontCardSaid : Prop := Claim7.holds Tryd.pinned (.plain (OpenSpec.ofChange owedFrontSpec)) owedFrontCard

/-- THE TIED CARD OF 'stadholderlaw10.OwedBack'. -/
def owedBackCard : Claim7 := { stood := { row := owedBackRow, standIns := [], harness := (true, "e25fd8081442c27872d3e88def8f26cf86809618c0ccef3542224dbad28b39ca"), looks := false }, kinds := [], alts := [], laidByText := true, laidKinds := [.data, .data, .data], laidTests := true, laidLooks := .later }
def OwedBackCardSaid : Prop := Claim7.holds Tryd.pinned (.plain (OpenSpec.ofChange owedBackSpec)) owedBackCard

/-- THE TIED CARD OF 'stadholderlaw10.OwedKnown'. -/
def owedKnownCard : Claim7 := { stood := { row := owedKnownRow, standIns := [], harness := (true, "e25fd8081442c27872d3e88def8f26cf86809618c0ccef3542224dbad28b39ca"), looks := false }, kinds := [], alts := [], laidByText := true, laidKinds := [.data, .data, .data], laidTests := true, laidLooks := .later }
def OwedKnownCardSaid : Prop := Claim7.holds Tryd.pinned (.plain (OpenSpec.ofChange owedKnownSpec)) owedKnownCard

/-- THE SECOND FORM's CARD OF 'stadholderlaw10.OwedTexts'. -/
def owedTextsUptoCard : Claim7 := { stood := { row := owedTextsUptoRow, standIns := [], harness := (true, "e25fd8081442c27872d3e88def8f26cf86809618c0ccef3542224dbad28b39ca"), looks := false }, kinds := [], alts := [], laidByText := true, laidKinds := [.data, .data, .data], laidTests := true, laidLooks := .later }
def OwedTextsUptoCardSaid : Prop := Claim7.holds Tryd.pinned (.plain (OpenSpec.upto owedTextsSpec)) owedTextsUptoCard

/-- THE SECOND FORM's CARD OF 'stadholderlaw10.OwedFront'. -/
def owedFrontUptoCard : Claim7 := { stood := { row := owedFrontUptoRow, standIns := [], harness := (true, "e25fd8081442c27872d3e88def8f26cf86809618c0ccef3542224dbad28b39ca"), looks := false }, kinds := [], alts := [], laidByText := true, laidKinds := [.data, .data, .data], laidTests := true, laidLooks := .later }
def OwedFrontUptoCardSaid : Prop := Claim7.holds Tryd.pinned (.plain (OpenSpec.upto owedFrontSpec)) owedFrontUptoCard

/-- THE SECOND FORM's CARD OF 'stadholderlaw10.OwedBack'. -/
def owedBackUptoCard : Claim7 := { stood := { row := owedBackUptoRow, standIns := [], harness := (true, "e25fd8081442c27872d3e88def8f26cf86809618c0ccef3542224dbad28b39ca"), looks := false }, kinds := [], alts := [], laidByText := true, laidKinds := [.data, .data, .data], laidTests := true, laidLooks := .later }
def OwedBackUptoCardSaid : Prop := Claim7.holds Tryd.pinned (.plain (OpenSpec.upto owedBackSpec)) owedBackUptoCard

/-- THE SECOND FORM's CARD OF 'stadholderlaw10.OwedKnown'. -/
def owedKnownUptoCard : Claim7 := { stood := { row := owedKnownUptoRow, standIns := [], harness := (true, "e25fd8081442c27872d3e88def8f26cf86809618c0ccef3542224dbad28b39ca"), looks := false }, kinds := [], alts := [], laidByText := true, laidKinds := [.data, .data, .data], laidTests := true, laidLooks := .later }
def OwedKnownUptoCardSaid : Prop := Claim7.holds Tryd.pinned (.plain (OpenSpec.upto owedKnownSpec)) owedKnownUptoCard
end Rows
end Go.Proofs.YtmkfdoomoeiibaaDoor
