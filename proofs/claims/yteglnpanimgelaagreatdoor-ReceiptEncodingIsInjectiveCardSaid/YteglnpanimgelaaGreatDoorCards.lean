/-
  DERIVED. GIVEN WITH THE SEED: THE CARDS: each row of YteglnpanimgelaaGreatDoorRows.lean that lists a variable, with what it lists TIED to the program's text (the seventh form; the later family's looks); each row that meets fmt, with fmt's text TOLD by the authors' own Lean function (tested against real Go, not proved from fmt's source: count such statements apart). THE CARD IS WHAT COUNTS. Prove the row's statement (the work); the ties are given (YteglnpanimgelaaGreatDoorTie.lean); close each card by the builder's one call (the guide's Derived/Test/ToyasCard.lean, 'card_holds'). Laid BY PROGRAM, IN A SANDBOX (cutbox-door.mjs). By AI agents, Wed Nov 11 2026. No macro, syntax, notation, axiom, sorry.
-/
import Derived.Test.YteglnpanimgelaaGreatDoorRows
import GoSem.ClaimSeven
namespace Go.Proofs.YteglnpanimgelaaGreatDoor
namespace Rows

/-- THE TIED CARD OF 'univocallaw34.ReceiptSampleMatchesReference'. -/
def receiptSampleMatchesReferenceCard : Claim7 := { stood := { row := receiptSampleMatchesReferenceRow, standIns := [], harness := (true, "ba9d29d335561e936bf798c2dd10c9b97b95d9f049c268e5d3e3694f4f73311d"), looks := true }, kinds := [], alts := [], laidByText := true, laidKinds := [.data, .data], laidTests := true, laidLooks := .later }
def ReceiptSampleMatchesReferenceCardSaid : Prop := Claim7.holds Tryz.pinned (.plain (OpenSpec.ofChange receiptSampleMatchesReferenceSpec)) receiptSampleMatchesReferenceCard

/-- THE TIED CARD OF 'univocallaw34.ReceiptEncodingIsInjective'. -/
def receiptEncodingIsInjectiveCard : Claim7 := { stood := { row := receiptEncodingIsInjectiveRow, standIns := [], harness := (true, "ba9d29d335561e936bf798c2dd10c9b97b95d9f049c268e5d3e3694f4f73311d"), looks := true }, kinds := [], alts := [], laidByText := true, laidKinds := [.data, .data], laidTests := true, laidLooks := .later }
def ReceiptEncodingIsInjectiveCardSaid : Prop := Claim7.holds Tryz.pinned (.plain (OpenSpec.ofChange receiptEncodingIsInjectiveSpec)) receiptEncodingIsInjectiveCard

/-- THE TIED CARD OF 'univocallaw34.ReceiptSignatures'. -/
def receiptSignaturesCard : Claim7 := { stood := { row := receiptSignaturesRow, standIns := [], harness := (true, "ba9d29d335561e936bf798c2dd10c9b97b95d9f049c268e5d3e3694f4f73311d"), looks := true }, kinds := [], alts := [], laidByText := true, laidKinds := [.data, .data], laidTests := true, laidLooks := .later }
def ReceiptSignaturesCardSaid : Prop := Claim7.holds Tryz.pinned (.plain (OpenSpec.ofChange receiptSignaturesSpec)) receiptSignaturesCard

/-- THE TIED CARD OF 'univocallaw34.ReceiptSamplesAreNested'. -/
def receiptSamplesAreNestedCard : Claim7 := { stood := { row := receiptSamplesAreNestedRow, standIns := [], harness := (true, "ba9d29d335561e936bf798c2dd10c9b97b95d9f049c268e5d3e3694f4f73311d"), looks := true }, kinds := [], alts := [], laidByText := true, laidKinds := [.data, .data], laidTests := true, laidLooks := .later }
def ReceiptSamplesAreNestedCardSaid : Prop := Claim7.holds Tryz.pinned (.plain (OpenSpec.ofChange receiptSamplesAreNestedSpec)) receiptSamplesAreNestedCard

/-- THE SECOND FORM's CARD OF 'univocallaw34.ReceiptSampleMatchesReference'. -/
def receiptSampleMatchesReferenceUptoCard : Claim7 := { stood := { row := receiptSampleMatchesReferenceUptoRow, standIns := [], harness := (true, "ba9d29d335561e936bf798c2dd10c9b97b95d9f049c268e5d3e3694f4f73311d"), looks := true }, kinds := [], alts := [], laidByText := true, laidKinds := [.data, .data], laidTests := true, laidLooks := .later }
def ReceiptSampleMatchesReferenceUptoCardSaid : Prop := Claim7.holds Tryz.pinned (.plain (OpenSpec.upto receiptSampleMatchesReferenceSpec)) receiptSampleMatchesReferenceUptoCard

/-- THE SECOND FORM's CARD OF 'univocallaw34.ReceiptEncodingIsInjective'. -/
def receiptEncodingIsInjectiveUptoCard : Claim7 := { stood := { row := receiptEncodingIsInjectiveUptoRow, standIns := [], harness := (true, "ba9d29d335561e936bf798c2dd10c9b97b95d9f049c268e5d3e3694f4f73311d"), looks := true }, kinds := [], alts := [], laidByText := true, laidKinds := [.data, .data], laidTests := true, laidLooks := .later }
def ReceiptEncodingIsInjectiveUptoCardSaid : Prop := Claim7.holds Tryz.pinned (.plain (OpenSpec.upto receiptEncodingIsInjectiveSpec)) receiptEncodingIsInjectiveUptoCard

/-- THE SECOND FORM's CARD OF 'univocallaw34.ReceiptSignatures'. -/
def receiptSignaturesUptoCard : Claim7 := { stood := { row := receiptSignaturesUptoRow, standIns := [], harness := (true, "ba9d29d335561e936bf798c2dd10c9b97b95d9f049c268e5d3e3694f4f73311d"), looks := true }, kinds := [], alts := [], laidByText := true, laidKinds := [.data, .data], laidTests := true, laidLooks := .later }
def ReceiptSignaturesUptoCardSaid : Prop := Claim7.holds Tryz.pinned (.plain (OpenSpec.upto receiptSignaturesSpec)) receiptSignaturesUptoCard

/-- THE SECOND FORM's CARD OF 'univocallaw34.ReceiptSamplesAreNested'. -/
def receiptSamplesAreNestedUptoCard : Claim7 := { stood := { row := receiptSamplesAreNestedUptoRow, standIns := [], harness := (true, "ba9d29d335561e936bf798c2dd10c9b97b95d9f049c268e5d3e3694f4f73311d"), looks := true }, kinds := [], alts := [], laidByText := true, laidKinds := [.data, .data], laidTests := true, laidLooks := .later }
def ReceiptSamplesAreNestedUptoCardSaid : Prop := Claim7.holds Tryz.pinned (.plain (OpenSpec.upto receiptSamplesAreNestedSpec)) receiptSamplesAreNestedUptoCard
end Rows
end Go.Proofs.YteglnpanimgelaaGreatDoor
