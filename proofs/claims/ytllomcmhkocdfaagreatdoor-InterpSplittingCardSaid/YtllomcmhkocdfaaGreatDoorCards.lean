/-
  DERIVED. GIVEN WITH THE SEED: THE CARDS: each row of YtllomcmhkocdfaaGreatDoorRows.lean that lists a variable, with what it lists TIED to the program's text (the seventh form; the later family's looks); each row that meets fmt, with fmt's text TOLD by the authors' own Lean function (tested against real Go, not proved from fmt's source: count such statements apart). THE CARD IS WHAT COUNTS. Prove the row's statement (the work); the ties are given (YtllomcmhkocdfaaGreatDoorTie.lean); close each card by the builder's one call (the guide's Derived/Test/ToyasCard.lean, 'card_holds'). Laid BY PROGRAM, IN A SANDBOX (cutbox-door.mjs). By AI agents, Wed Nov 11 2026. No macro, syntax, notation, axiom, sorry.
-/
import Derived.Test.YtllomcmhkocdfaaGreatDoorRows
import GoSem.ClaimSeven
namespace Go.Proofs.YtllomcmhkocdfaaGreatDoor
namespace Rows

/-- THE TIED CARD OF 'univocallaw19.InterpSplitting'. -/
def interpSplittingCard : Claim7 := { stood := { row := interpSplittingRow, standIns := [], harness := (true, "ec4d6e56eaafedcec0d84c440062747edfa4e0a3fd61cd50da369914cf859972"), looks := true }, kinds := [], alts := [], laidByText := true, laidKinds := [.data], laidTests := true, laidLooks := .later }
def InterpSplittingCardSaid : Prop := Claim7.holds Tryz.pinned (.plain (OpenSpec.ofChange interpSplittingSpec)) interpSplittingCard

/-- THE TIED CARD OF 'univocallaw19.InterpLoops'. -/
def interpLoopsCard : Claim7 := { stood := { row := interpLoopsRow, standIns := [], harness := (true, "ec4d6e56eaafedcec0d84c440062747edfa4e0a3fd61cd50da369914cf859972"), looks := true }, kinds := [], alts := [], laidByText := true, laidKinds := [.data], laidTests := true, laidLooks := .later }
def InterpLoopsCardSaid : Prop := Claim7.holds Tryz.pinned (.plain (OpenSpec.ofChange interpLoopsSpec)) interpLoopsCard

/-- THE SECOND FORM's CARD OF 'univocallaw19.InterpSplitting'. -/
def interpSplittingUptoCard : Claim7 := { stood := { row := interpSplittingUptoRow, standIns := [], harness := (true, "ec4d6e56eaafedcec0d84c440062747edfa4e0a3fd61cd50da369914cf859972"), looks := true }, kinds := [], alts := [], laidByText := true, laidKinds := [.data], laidTests := true, laidLooks := .later }
def InterpSplittingUptoCardSaid : Prop := Claim7.holds Tryz.pinned (.plain (OpenSpec.upto interpSplittingSpec)) interpSplittingUptoCard

/-- THE SECOND FORM's CARD OF 'univocallaw19.InterpLoops'. -/
def interpLoopsUptoCard : Claim7 := { stood := { row := interpLoopsUptoRow, standIns := [], harness := (true, "ec4d6e56eaafedcec0d84c440062747edfa4e0a3fd61cd50da369914cf859972"), looks := true }, kinds := [], alts := [], laidByText := true, laidKinds := [.data], laidTests := true, laidLooks := .later }
def InterpLoopsUptoCardSaid : Prop := Claim7.holds Tryz.pinned (.plain (OpenSpec.upto interpLoopsSpec)) interpLoopsUptoCard
end Rows
end Go.Proofs.YtllomcmhkocdfaaGreatDoor
