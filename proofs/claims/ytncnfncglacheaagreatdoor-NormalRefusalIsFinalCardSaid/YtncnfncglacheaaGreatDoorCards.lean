/-
  DERIVED. GIVEN WITH THE SEED: THE CARDS: each row of YtncnfncglacheaaGreatDoorRows.lean that lists a variable, with what it lists TIED to the program's text (the seventh form; the later family's looks); each row that meets fmt, with fmt's text TOLD by the authors' own Lean function (tested against real Go, not proved from fmt's source: count such statements apart). THE CARD IS WHAT COUNTS. Prove the row's statement (the work); the ties are given (YtncnfncglacheaaGreatDoorTie.lean); close each card by the builder's one call (the guide's Derived/Test/ToyasCard.lean, 'card_holds'). Laid BY PROGRAM, IN A SANDBOX (cutbox-door.mjs). By AI agents, Wed Nov 11 2026. No macro, syntax, notation, axiom, sorry.
-/
import Derived.Test.YtncnfncglacheaaGreatDoorRows
import GoSem.ClaimSeven
namespace Go.Proofs.YtncnfncglacheaaGreatDoor
namespace Rows

/-- THE TIED CARD OF 'univocallaw25.NormalContract'. -/
def normalContractCard : Claim7 := { stood := { row := normalContractRow, standIns := [], harness := (true, "7bbc23157351b42c0f4525da6cede24d43dd670c02de97efee5b607a8aef0b68"), looks := true }, kinds := [], alts := [], laidByText := true, laidKinds := [.data], laidTests := true, laidLooks := .later }
def NormalContractCardSaid : Prop := Claim7.holds Tryz.pinned (.plain (OpenSpec.ofChange normalContractSpec)) normalContractCard

/-- THE TIED CARD OF 'univocallaw25.NormalRefusalIsFinal'. -/
def normalRefusalIsFinalCard : Claim7 := { stood := { row := normalRefusalIsFinalRow, standIns := [], harness := (true, "7bbc23157351b42c0f4525da6cede24d43dd670c02de97efee5b607a8aef0b68"), looks := true }, kinds := [], alts := [], laidByText := true, laidKinds := [.data], laidTests := true, laidLooks := .later }
def NormalRefusalIsFinalCardSaid : Prop := Claim7.holds Tryz.pinned (.plain (OpenSpec.ofChange normalRefusalIsFinalSpec)) normalRefusalIsFinalCard

/-- THE TIED CARD OF 'univocallaw25.NormalRejectsInvalid'. -/
def normalRejectsInvalidCard : Claim7 := { stood := { row := normalRejectsInvalidRow, standIns := [], harness := (true, "7bbc23157351b42c0f4525da6cede24d43dd670c02de97efee5b607a8aef0b68"), looks := true }, kinds := [], alts := [], laidByText := true, laidKinds := [.data], laidTests := true, laidLooks := .later }
def NormalRejectsInvalidCardSaid : Prop := Claim7.holds Tryz.pinned (.plain (OpenSpec.ofChange normalRejectsInvalidSpec)) normalRejectsInvalidCard

/-- THE TIED CARD OF 'univocallaw25.NormalTransducerComputes'. -/
def normalTransducerComputesCard : Claim7 := { stood := { row := normalTransducerComputesRow, standIns := [], harness := (true, "7bbc23157351b42c0f4525da6cede24d43dd670c02de97efee5b607a8aef0b68"), looks := true }, kinds := [], alts := [], laidByText := true, laidKinds := [.data], laidTests := true, laidLooks := .later }
def NormalTransducerComputesCardSaid : Prop := Claim7.holds Tryz.pinned (.plain (OpenSpec.ofChange normalTransducerComputesSpec)) normalTransducerComputesCard

/-- THE SECOND FORM's CARD OF 'univocallaw25.NormalContract'. -/
def normalContractUptoCard : Claim7 := { stood := { row := normalContractUptoRow, standIns := [], harness := (true, "7bbc23157351b42c0f4525da6cede24d43dd670c02de97efee5b607a8aef0b68"), looks := true }, kinds := [], alts := [], laidByText := true, laidKinds := [.data], laidTests := true, laidLooks := .later }
def NormalContractUptoCardSaid : Prop := Claim7.holds Tryz.pinned (.plain (OpenSpec.upto normalContractSpec)) normalContractUptoCard

/-- THE SECOND FORM's CARD OF 'univocallaw25.NormalRefusalIsFinal'. -/
def normalRefusalIsFinalUptoCard : Claim7 := { stood := { row := normalRefusalIsFinalUptoRow, standIns := [], harness := (true, "7bbc23157351b42c0f4525da6cede24d43dd670c02de97efee5b607a8aef0b68"), looks := true }, kinds := [], alts := [], laidByText := true, laidKinds := [.data], laidTests := true, laidLooks := .later }
def NormalRefusalIsFinalUptoCardSaid : Prop := Claim7.holds Tryz.pinned (.plain (OpenSpec.upto normalRefusalIsFinalSpec)) normalRefusalIsFinalUptoCard

/-- THE SECOND FORM's CARD OF 'univocallaw25.NormalRejectsInvalid'. -/
def normalRejectsInvalidUptoCard : Claim7 := { stood := { row := normalRejectsInvalidUptoRow, standIns := [], harness := (true, "7bbc23157351b42c0f4525da6cede24d43dd670c02de97efee5b607a8aef0b68"), looks := true }, kinds := [], alts := [], laidByText := true, laidKinds := [.data], laidTests := true, laidLooks := .later }
def NormalRejectsInvalidUptoCardSaid : Prop := Claim7.holds Tryz.pinned (.plain (OpenSpec.upto normalRejectsInvalidSpec)) normalRejectsInvalidUptoCard

/-- THE SECOND FORM's CARD OF 'univocallaw25.NormalTransducerComputes'. -/
def normalTransducerComputesUptoCard : Claim7 := { stood := { row := normalTransducerComputesUptoRow, standIns := [], harness := (true, "7bbc23157351b42c0f4525da6cede24d43dd670c02de97efee5b607a8aef0b68"), looks := true }, kinds := [], alts := [], laidByText := true, laidKinds := [.data], laidTests := true, laidLooks := .later }
def NormalTransducerComputesUptoCardSaid : Prop := Claim7.holds Tryz.pinned (.plain (OpenSpec.upto normalTransducerComputesSpec)) normalTransducerComputesUptoCard
end Rows
end Go.Proofs.YtncnfncglacheaaGreatDoor
