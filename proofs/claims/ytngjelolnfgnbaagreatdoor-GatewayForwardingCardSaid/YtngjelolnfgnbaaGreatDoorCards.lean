/-
  DERIVED. GIVEN WITH THE SEED: THE CARDS: each row of YtngjelolnfgnbaaGreatDoorRows.lean that lists a variable, with what it lists TIED to the program's text (the seventh form; the later family's looks); each row that meets fmt, with fmt's text TOLD by the authors' own Lean function (tested against real Go, not proved from fmt's source: count such statements apart). THE CARD IS WHAT COUNTS. Prove the row's statement (the work); the ties are given (YtngjelolnfgnbaaGreatDoorTie.lean); close each card by the builder's one call (the guide's Derived/Test/ToyasCard.lean, 'card_holds'). Laid BY PROGRAM, IN A SANDBOX (cutbox-door.mjs). By AI agents, Wed Nov 11 2026. No macro, syntax, notation, axiom, sorry.
-/
import Derived.Test.YtngjelolnfgnbaaGreatDoorRows
import GoSem.ClaimSeven
namespace Go.Proofs.YtngjelolnfgnbaaGreatDoor
namespace Rows

/-- THE TIED CARD OF 'univocallaw33.GatewayLifeCycle'. -/
def gatewayLifeCycleCard : Claim7 := { stood := { row := gatewayLifeCycleRow, standIns := [], harness := (true, "c98c15c5cf98279d60430aa53c89a827750924b9a55ea97cfb1b2c35f29ef068"), looks := true }, kinds := [], alts := [], laidByText := true, laidKinds := [.data], laidTests := true, laidLooks := .later }
def GatewayLifeCycleCardSaid : Prop := Claim7.holds Tryz.pinned (.plain (OpenSpec.ofChange gatewayLifeCycleSpec)) gatewayLifeCycleCard

/-- THE TIED CARD OF 'univocallaw33.GatewayClaims'. -/
def gatewayClaimsCard : Claim7 := { stood := { row := gatewayClaimsRow, standIns := [], harness := (true, "c98c15c5cf98279d60430aa53c89a827750924b9a55ea97cfb1b2c35f29ef068"), looks := true }, kinds := [], alts := [], laidByText := true, laidKinds := [.data], laidTests := true, laidLooks := .later }
def GatewayClaimsCardSaid : Prop := Claim7.holds Tryz.pinned (.plain (OpenSpec.ofChange gatewayClaimsSpec)) gatewayClaimsCard

/-- THE TIED CARD OF 'univocallaw33.GatewayForwarding'. -/
def gatewayForwardingCard : Claim7 := { stood := { row := gatewayForwardingRow, standIns := [], harness := (true, "c98c15c5cf98279d60430aa53c89a827750924b9a55ea97cfb1b2c35f29ef068"), looks := true }, kinds := [], alts := [], laidByText := true, laidKinds := [.data], laidTests := true, laidLooks := .later }
def GatewayForwardingCardSaid : Prop := Claim7.holds Tryz.pinned (.plain (OpenSpec.ofChange gatewayForwardingSpec)) gatewayForwardingCard

/-- THE SECOND FORM's CARD OF 'univocallaw33.GatewayLifeCycle'. -/
def gatewayLifeCycleUptoCard : Claim7 := { stood := { row := gatewayLifeCycleUptoRow, standIns := [], harness := (true, "c98c15c5cf98279d60430aa53c89a827750924b9a55ea97cfb1b2c35f29ef068"), looks := true }, kinds := [], alts := [], laidByText := true, laidKinds := [.data], laidTests := true, laidLooks := .later }
def GatewayLifeCycleUptoCardSaid : Prop := Claim7.holds Tryz.pinned (.plain (OpenSpec.upto gatewayLifeCycleSpec)) gatewayLifeCycleUptoCard

/-- THE SECOND FORM's CARD OF 'univocallaw33.GatewayClaims'. -/
def gatewayClaimsUptoCard : Claim7 := { stood := { row := gatewayClaimsUptoRow, standIns := [], harness := (true, "c98c15c5cf98279d60430aa53c89a827750924b9a55ea97cfb1b2c35f29ef068"), looks := true }, kinds := [], alts := [], laidByText := true, laidKinds := [.data], laidTests := true, laidLooks := .later }
def GatewayClaimsUptoCardSaid : Prop := Claim7.holds Tryz.pinned (.plain (OpenSpec.upto gatewayClaimsSpec)) gatewayClaimsUptoCard

/-- THE SECOND FORM's CARD OF 'univocallaw33.GatewayForwarding'. -/
def gatewayForwardingUptoCard : Claim7 := { stood := { row := gatewayForwardingUptoRow, standIns := [], harness := (true, "c98c15c5cf98279d60430aa53c89a827750924b9a55ea97cfb1b2c35f29ef068"), looks := true }, kinds := [], alts := [], laidByText := true, laidKinds := [.data], laidTests := true, laidLooks := .later }
def GatewayForwardingUptoCardSaid : Prop := Claim7.holds Tryz.pinned (.plain (OpenSpec.upto gatewayForwardingSpec)) gatewayForwardingUptoCard
end Rows
end Go.Proofs.YtngjelolnfgnbaaGreatDoor
