/-
  DERIVED. GIVEN WITH THE SEED: THE CARDS: each row of YtgflelodpcgmbaaGreatDoorRows.lean that lists a variable, with what it lists TIED to the program's text (the seventh form; the later family's looks); each row that meets fmt, with fmt's text TOLD by the authors' own Lean function (tested against real Go, not proved from fmt's source: count such statements apart). THE CARD IS WHAT COUNTS. Prove the row's statement (the work); the ties are given (YtgflelodpcgmbaaGreatDoorTie.lean); close each card by the builder's one call (the guide's Derived/Test/ToyasCard.lean, 'card_holds'). Laid BY PROGRAM, IN A SANDBOX (cutbox-door.mjs). By AI agents, Wed Nov 11 2026. No macro, syntax, notation, axiom, sorry.
-/
import Derived.Test.YtgflelodpcgmbaaGreatDoorRows
import GoSem.ClaimSeven
namespace Go.Proofs.YtgflelodpcgmbaaGreatDoor
namespace Rows

/-- THE TIED CARD OF 'univocallaw25.NormalMatchesReference'. -/
def normalMatchesReferenceCard : Claim7 := { stood := { row := normalMatchesReferenceRow, standIns := [], harness := (true, "ceb1f754ac4daa09e6501e4b8709417b71f370a92c830c602e398536320346d4"), looks := true }, kinds := [], alts := [], laidByText := true, laidKinds := [.data], laidTests := true, laidLooks := .later }
def NormalMatchesReferenceCardSaid : Prop := Claim7.holds Tryz.pinned (.plain (OpenSpec.ofChange normalMatchesReferenceSpec)) normalMatchesReferenceCard

/-- THE TIED CARD OF 'univocallaw25.NormalStreams'. -/
def normalStreamsCard : Claim7 := { stood := { row := normalStreamsRow, standIns := [], harness := (true, "ceb1f754ac4daa09e6501e4b8709417b71f370a92c830c602e398536320346d4"), looks := true }, kinds := [], alts := [], laidByText := true, laidKinds := [.data], laidTests := true, laidLooks := .later }
def NormalStreamsCardSaid : Prop := Claim7.holds Tryz.pinned (.plain (OpenSpec.ofChange normalStreamsSpec)) normalStreamsCard

/-- THE TIED CARD OF 'univocallaw25.NormalRefusals'. -/
def normalRefusalsCard : Claim7 := { stood := { row := normalRefusalsRow, standIns := [], harness := (true, "ceb1f754ac4daa09e6501e4b8709417b71f370a92c830c602e398536320346d4"), looks := true }, kinds := [], alts := [], laidByText := true, laidKinds := [.data], laidTests := true, laidLooks := .later }
def NormalRefusalsCardSaid : Prop := Claim7.holds Tryz.pinned (.plain (OpenSpec.ofChange normalRefusalsSpec)) normalRefusalsCard

/-- THE TIED CARD OF 'univocallaw25.NormalBounds'. -/
def normalBoundsCard : Claim7 := { stood := { row := normalBoundsRow, standIns := [], harness := (true, "ceb1f754ac4daa09e6501e4b8709417b71f370a92c830c602e398536320346d4"), looks := true }, kinds := [], alts := [], laidByText := true, laidKinds := [.data], laidTests := true, laidLooks := .later }
def NormalBoundsCardSaid : Prop := Claim7.holds Tryz.pinned (.plain (OpenSpec.ofChange normalBoundsSpec)) normalBoundsCard

/-- THE TIED CARD OF 'univocallaw25.NormalTransducerMatchesReference'. -/
def normalTransducerMatchesReferenceCard : Claim7 := { stood := { row := normalTransducerMatchesReferenceRow, standIns := [], harness := (true, "ceb1f754ac4daa09e6501e4b8709417b71f370a92c830c602e398536320346d4"), looks := true }, kinds := [], alts := [], laidByText := true, laidKinds := [.data], laidTests := true, laidLooks := .later }
def NormalTransducerMatchesReferenceCardSaid : Prop := Claim7.holds Tryz.pinned (.plain (OpenSpec.ofChange normalTransducerMatchesReferenceSpec)) normalTransducerMatchesReferenceCard

/-- THE SECOND FORM's CARD OF 'univocallaw25.NormalMatchesReference'. -/
def normalMatchesReferenceUptoCard : Claim7 := { stood := { row := normalMatchesReferenceUptoRow, standIns := [], harness := (true, "ceb1f754ac4daa09e6501e4b8709417b71f370a92c830c602e398536320346d4"), looks := true }, kinds := [], alts := [], laidByText := true, laidKinds := [.data], laidTests := true, laidLooks := .later }
def NormalMatchesReferenceUptoCardSaid : Prop := Claim7.holds Tryz.pinned (.plain (OpenSpec.upto normalMatchesReferenceSpec)) normalMatchesReferenceUptoCard

/-- THE SECOND FORM's CARD OF 'univocallaw25.NormalStreams'. -/
def normalStreamsUptoCard : Claim7 := { stood := { row := normalStreamsUptoRow, standIns := [], harness := (true, "ceb1f754ac4daa09e6501e4b8709417b71f370a92c830c602e398536320346d4"), looks := true }, kinds := [], alts := [], laidByText := true, laidKinds := [.data], laidTests := true, laidLooks := .later }
def NormalStreamsUptoCardSaid : Prop := Claim7.holds Tryz.pinned (.plain (OpenSpec.upto normalStreamsSpec)) normalStreamsUptoCard

/-- THE SECOND FORM's CARD OF 'univocallaw25.NormalRefusals'. -/
def normalRefusalsUptoCard : Claim7 := { stood := { row := normalRefusalsUptoRow, standIns := [], harness := (true, "ceb1f754ac4daa09e6501e4b8709417b71f370a92c830c602e398536320346d4"), looks := true }, kinds := [], alts := [], laidByText := true, laidKinds := [.data], laidTests := true, laidLooks := .later }
def NormalRefusalsUptoCardSaid : Prop := Claim7.holds Tryz.pinned (.plain (OpenSpec.upto normalRefusalsSpec)) normalRefusalsUptoCard

/-- THE SECOND FORM's CARD OF 'univocallaw25.NormalBounds'. -/
def normalBoundsUptoCard : Claim7 := { stood := { row := normalBoundsUptoRow, standIns := [], harness := (true, "ceb1f754ac4daa09e6501e4b8709417b71f370a92c830c602e398536320346d4"), looks := true }, kinds := [], alts := [], laidByText := true, laidKinds := [.data], laidTests := true, laidLooks := .later }
def NormalBoundsUptoCardSaid : Prop := Claim7.holds Tryz.pinned (.plain (OpenSpec.upto normalBoundsSpec)) normalBoundsUptoCard

/-- THE SECOND FORM's CARD OF 'univocallaw25.NormalTransducerMatchesReference'. -/
def normalTransducerMatchesReferenceUptoCard : Claim7 := { stood := { row := normalTransducerMatchesReferenceUptoRow, standIns := [], harness := (true, "ceb1f754ac4daa09e6501e4b8709417b71f370a92c830c602e398536320346d4"), looks := true }, kinds := [], alts := [], laidByText := true, laidKinds := [.data], laidTests := true, laidLooks := .later }
def NormalTransducerMatchesReferenceUptoCardSaid : Prop := Claim7.holds Tryz.pinned (.plain (OpenSpec.upto normalTransducerMatchesReferenceSpec)) normalTransducerMatchesReferenceUptoCard
end Rows
end Go.Proofs.YtgflelodpcgmbaaGreatDoor
