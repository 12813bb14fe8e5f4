/-
  DERIVED. GIVEN WITH THE SEED: THE CARDS: each row of YtggidmjgadlolaaDoorRows.lean that lists a variable, with what it lists TIED to the program's text (the seventh form; the later family's looks); each row that meets fmt, with fmt's text TOLD by the authors' own Lean function (tested against real Go, not proved from fmt's source: count such statements apart). THE CARD IS WHAT COUNTS. Prove the row's statement (the work); the ties are given (YtggidmjgadlolaaDoorTie.lean); close each card by the builder's one call (the guide's Derived/Test/ToyasCard.lean, 'card_holds'). Laid BY PROGRAM, IN A SANDBOX (cutbox-door.mjs). By AI agents, Wed Nov 11 2026. No macro, syntax, notation, axiom, sorry.
-/
import Derived.Test.YtggidmjgadlolaaDoorRows
import GoSem.ClaimSeven
namespace Go.Proofs.YtggidmjgadlolaaDoor
namespace Rows

/-- THE TIED CARD OF 'stadholderlaw20.CheckKnown'. -/
def checkKnownCard : Claim7 := { stood := { row := checkKnownRow, standIns := [], harness := (true, "574ac496b3324a16c21bf41b4838075df5d0cbf07f906388c3bceacfd8845d46"), looks := false }, kinds := [], alts := [], laidByText := true, laidKinds := [.data, .data, .data], laidTests := true, laidLooks := .later }
def CheckKnownCardSaid : Prop := Claim7.holds Tryd.pinned (.plain (OpenSpec.ofChange checkKnownSpec)) checkKnownCard

/-- THE TIED CARD OF 'stadholderlaw20.CheckSays'. -/
def checkSaysCard : Claim7 := { stood := { row := checkSaysRow, standIns := [], harness := (true, "574ac496b3324a16c21bf41b4838075df5d0cbf07f906388c3bceacfd8845d46"), looks := false }, kinds := [], alts := [], laidByText := true, laidKinds := [.data, .data, .data], laidTests := true, laidLooks := .later }
def CheckSaysCardSaid : Prop := Claim7.holds Tryd.pinned (.plain (OpenSpec.ofChange checkSaysSpec)) checkSaysCard

/-- THE TIED CARD OF 'stadholderlaw20.CheckOne'. -/
def checkOneCard : Claim7 := { stood := { row := checkOneRow, standIns := [], harness := (true, "574ac496b3324a16c21bf41b4838075df5d0cbf07f906388c3bceacfd8845d46"), looks := false }, kinds := [], alts := [], laidByText := true, laidKinds := [.data, .data, .data], laidTests := true, laidLooks := .later }
def CheckOneCardSaid : Prop := Claim7.holds Tryd.pinned (.plain (OpenSpec.ofChange checkOneSpec)) checkOneCard

/-- THE TIED CARD OF 'stadholderlaw20.CheckNone'. -/
def checkNoneCard : Claim7 := { stood := { row := checkNoneRow, standIns := [], harness := (true, "574ac496b3324a16c21bf41b4838075df5d0cbf07f906388c3bceacfd8845d46"), looks := false }, kinds := [], alts := [], laidByText := true, laidKinds := [.data, .data, .data], laidTests := true, laidLooks := .later }
def CheckNoneCardSaid : Prop := Claim7.holds Tryd.pinned (.plain (OpenSpec.ofChange checkNoneSpec)) checkNoneCard

/-- THE TIED CARD OF 'stadholderlaw20.CheckTwice'. -/
def checkTwiceCard : Claim7 := { stood := { row := checkTwiceRow, standIns := [], harness := (true, "574ac496b3324a16c21bf41b4838075df5d0cbf07f906388c3bceacfd8845d46"), looks := false }, kinds := [], alts := [], laidByText := true, laidKinds := [.data, .data, .data], laidTests := true, laidLooks := .later }
def CheckTwiceCardSaid : Prop := Claim7.holds Tryd.pinned (.plain (OpenSpec.ofChange checkTwiceSpec)) checkTwiceCard

/-- THE SECOND FORM's CARD OF 'stadholderlaw20.CheckKnown'. -/
def checkKnownUptoCard : Claim7 := { stood := { row := checkKnownUptoRow, standIns := [], harness := (true, "574ac496b3324a16c21bf41b4838075df5d0cbf07f906388c3bceacfd8845d46"), looks := false }, kinds := [], alts := [], laidByText := true, laidKinds := [.data, .data, .data], laidTests := true, laidLooks := .later }
def CheckKnownUptoCardSaid : Prop := Claim7.holds Tryd.pinned (.plain (OpenSpec.upto checkKnownSpec)) checkKnownUptoCard

/-- THE SECOND FORM's CARD OF 'stadholderlaw20.CheckSays'. -/
def checkSaysUptoCard : Claim7 := { stood := { row := checkSaysUptoRow, standIns := [], harness := (true, "574ac496b3324a16c21bf41b4838075df5d0cbf07f906388c3bceacfd8845d46"), looks := false }, kinds := [], alts := [], laidByText := true, laidKinds := [.data, .data, .data], laidTests := true, laidLooks := .later }
def CheckSaysUptoCardSaid : Prop := Claim7.holds Tryd.pinned (.plain (OpenSpec.upto checkSaysSpec)) checkSaysUptoCard

/-- THE SECOND FORM's CARD OF 'stadholderlaw20.CheckOne'. -/
def checkOneUptoCard : Claim7 := { stood := { row := checkOneUptoRow, standIns := [], harness := (true, "574ac496b3324a16c21bf41b4838075df5d0cbf07f906388c3bceacfd8845d46"), looks := false }, kinds := [], alts := [], laidByText := true, laidKinds := [.data, .data, .data], laidTests := true, laidLooks := .later }
def CheckOneUptoCardSaid : Prop := Claim7.holds Tryd.pinned (.plain (OpenSpec.upto checkOneSpec)) checkOneUptoCard

/-- THE SECOND FORM's CARD OF 'stadholderlaw20.CheckNone'. -/
def checkNoneUptoCard : Claim7 := { stood := { row := checkNoneUptoRow, standIns := [], harness := (true, "574ac496b3324a16c21bf41b4838075df5d0cbf07f906388c3bceacfd8845d46"), looks := false }, kinds := [], alts := [], laidByText := true, laidKinds := [.data, .data, .data], laidTests := true, laidLooks := .later }
def CheckNoneUptoCardSaid : Prop := Claim7.holds Tryd.pinned (.plain (OpenSpec.upto checkNoneSpec)) checkNoneUptoCard

/-- THE SECOND FORM's CARD OF 'stadholderlaw20.CheckTwice'. -/
def checkTwiceUptoCard : Claim7 := { stood := { row := checkTwiceUptoRow, standIns := [], harness := (true, "574ac496b3324a16c21bf41b4838075df5d0cbf07f906388c3bceacfd8845d46"), looks := false }, kinds := [], alts := [], laidByText := true, laidKinds := [.data, .data, .data], laidTests := true, laidLooks := .later }
def CheckTwiceUptoCardSaid : Prop := Claim7.holds Tryd.pinned (.plain (OpenSpec.upto checkTwiceSpec)) checkTwiceUptoCard
end Rows
end Go.Proofs.YtggidmjgadlolaaDoor
