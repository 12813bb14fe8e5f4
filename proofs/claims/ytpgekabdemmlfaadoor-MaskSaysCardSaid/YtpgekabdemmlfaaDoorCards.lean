/-
  DERIVED. GIVEN WITH THE SEED: THE CARDS: each row of YtpgekabdemmlfaaDoorRows.lean that lists a variable, with what it lists TIED to the program's text (the seventh form; the later family's looks); each row that meets fmt, with fmt's text TOLD by the authors' own Lean function (tested against real Go, not proved from fmt's source: count such statements apart). THE CARD IS WHAT COUNTS. Prove the row's statement (the work); the ties are given (YtpgekabdemmlfaaDoorTie.lean); close each card by the builder's one call (the guide's Derived/Test/ToyasCard.lean, 'card_holds'). Laid BY PROGRAM, IN A SANDBOX (cutbox-door.mjs). By AI agents, Wed Nov 11 2026. No macro, syntax, notation, axiom, sorry.
-/
import Derived.Test.YtpgekabdemmlfaaDoorRows
import GoSem.ClaimSeven
namespace Go.Proofs.YtpgekabdemmlfaaDoor
namespace Rows

/-- THE TIED CARD OF 'stadholderlaw3.MaskTexts'. -/
def maskTextsCard : Claim7 := { stood := { row := maskTextsRow, standIns := [], harness := (true, "f25e0ce99d8dd7379869500326aa8d272753f4fbdae6632e6a20c22175c43d89"), looks := false }, kinds := [], alts := [], laidByText := true, laidKinds := [.data, .data, .data], laidTests := true, laidLooks := .later }
def MaskTextsCardSaid : Prop := Claim7.holds Tryd.pinned (.plain (OpenSpec.ofChange maskTextsSpec)) maskTextsCard

/-- THE TIED CARD OF 'stadholderlaw3.MaskAround'. -/
def maskAroundCard : Claim7 := { stood := { row := maskAroundRow, standIns := [], harness := (true, "f25e0ce99d8dd7379869500326aa8d272753f4fbdae6632e6a20c22175c43d89"), looks := false }, kinds := [], alts := [], laidByText := true, laidKinds := [.data, .data, .data], laidTests := true, laidLooks := .later }
def MaskAroundCardSaid : Prop := Claim7.holds Tryd.pinned (.plain (OpenSpec.ofChange maskAroundSpec)) maskAroundCard

/-- THE TIED CARD OF 'stadholderlaw3.MaskKnown'. -/
def maskKnownCard : Claim7 := { stood := { row := maskKnownRow, standIns := [], harness := (true, "f25e0ce99d8dd7379869500326aa8d272753f4fbdae6632e6a20c22175c43d89"), looks := false }, kinds := [], alts := [], laidByText := true, laidKinds := [.data, .data, .data], laidTests := true, laidLooks := .later }
def MaskKnownCardSaid : Prop := Claim7.holds Tryd.pinned (.plain (OpenSpec.ofChange maskKnownSpec)) maskKnownCard

/-- THE TIED CARD OF 'stadholderlaw3.MaskSays'. -/
def maskSaysCard : Claim7 := { stood := { row := maskSaysRow, standIns := [], harness := (true, "f25e0ce99d8dd7379869500326aa8d272753f4fbdae6632e6a20c22175c43d89"), looks := false }, kinds := [], alts := [], laidByText := true, laidKinds := [.data, .data, .data], laidTests := true, laidLooks := .later }
def MaskSaysCardSaid : Prop := Claim7.holds Tryd.pinned (.plain (OpenSpec.ofChange maskSaysSpec)) maskSaysCard

/-- THE SECOND FORM's CARD OF 'stadholderlaw3.MaskTexts'. -/
def maskTextsUptoCard : Claim7 := { stood := { row := maskTextsUptoRow, standIns := [], harness := (true, "f25e0ce99d8dd7379869500326aa8d272753f4fbdae6632e6a20c22175c43d89"), looks := false }, kinds := [], alts := [], laidByText := true, laidKinds := [.data, .data, .data], laidTests := true, laidLooks := .later }
def MaskTextsUptoCardSaid : Prop := Claim7.holds Tryd.pinned (.plain (OpenSpec.upto maskTextsSpec)) maskTextsUptoCard

/-- THE SECOND FORM's CARD OF 'stadholderlaw3.MaskAround'. -/
def maskAroundUptoCard : Claim7 := { stood := { row := maskAroundUptoRow, standIns := [], harness := (true, "f25e0ce99d8dd7379869500326aa8d272753f4fbdae6632e6a20c22175c43d89"), looks := false }, kinds := [], alts := [], laidByText := true, laidKinds := [.data, .data, .data], laidTests := true, laidLooks := .later }
def MaskAroundUptoCardSaid : Prop := Claim7.holds Tryd.pinned (.plain (OpenSpec.upto maskAroundSpec)) maskAroundUptoCard

/-- THE SECOND FORM's CARD OF 'stadholderlaw3.MaskKnown'. -/
def maskKnownUptoCard : Claim7 := { stood := { row := maskKnownUptoRow, standIns := [], harness := (true, "f25e0ce99d8dd7379869500326aa8d272753f4fbdae6632e6a20c22175c43d89"), looks := false }, kinds := [], alts := [], laidByText := true, laidKinds := [.data, .data, .data], laidTests := true, laidLooks := .later }
def MaskKnownUptoCardSaid : Prop := Claim7.holds Tryd.pinned (.plain (OpenSpec.upto maskKnownSpec)) maskKnownUptoCard

/-- THE SECOND FORM's CARD OF 'stadholderlaw3.MaskSays'. -/
def maskSaysUptoCard : Claim7 := { stood := { row := maskSaysUptoRow, standIns := [], harness := (true, "f25e0ce99d8dd7379869500326aa8d272753f4fbdae6632e6a20c22175c43d89"), looks := false }, kinds := [], alts := [], laidByText := true, laidKinds := [.data, .data, .data], laidTests := true, laidLooks := .later }
def MaskSaysUptoCardSaid : Prop := Claim7.holds Tryd.pinned (.plain (OpenSpec.upto maskSaysSpec)) maskSaysUptoCard
end Rows
end Go.Proofs.YtpgekabdemmlfaaDoor
