/-
  DERIVED. GIVEN WITH THE SEED: THE CARDS: each row of YtpgbgeofhcpocaaGreatDoorRows.lean that lists a variable, with what it lists TIED to the program's text (the seventh form; the later family's looks); each row that meets fmt, with fmt's text TOLD by the authors' own Lean function (tested against real Go, not proved from fmt's source: count such statements apart). THE CARD IS WHAT COUNTS. Prove the row's statement (the work); the ties are given (YtpgbgeofhcpocaaGreatDoorTie.lean); close each card by the builder's one call (the guide's Derived/Test/ToyasCard.lean, 'card_holds'). Laid BY PROGRAM, IN A SANDBOX (cutbox-door.mjs). By AI agents, Wed Nov 11 2026. No macro, syntax, notation, axiom, sorry.
-/
import Derived.Test.YtpgbgeofhcpocaaGreatDoorRows
import GoSem.ClaimSeven
namespace Go.Proofs.YtpgbgeofhcpocaaGreatDoor
namespace Rows

/-- THE TIED CARD OF 'ciceronelaw22.RuleHolds'. -/
def ruleHoldsCard : Claim7 := { stood := { row := ruleHoldsRow, standIns := [], harness := (true, "83e4047e51e7f73f23cc1e960e1b62625e447781574dac81ee44c058271f8301"), looks := true }, kinds := [], alts := [], laidByText := true, laidKinds := [.data, .data, .data, .sentinel, .sentinel], laidTests := true, laidLooks := .later }
def RuleHoldsCardSaid : Prop := Claim7.holds Tryz.pinned (.plain (OpenSpec.ofChange ruleHoldsSpec)) ruleHoldsCard

/-- THE TIED CARD OF 'ciceronelaw22.RuleNots'. -/
def ruleNotsCard : Claim7 := { stood := { row := ruleNotsRow, standIns := [], harness := (true, "83e4047e51e7f73f23cc1e960e1b62625e447781574dac81ee44c058271f8301"), looks := true }, kinds := [], alts := [], laidByText := true, laidKinds := [.data, .data, .data, .sentinel, .sentinel], laidTests := true, laidLooks := .later }
def RuleNotsCardSaid : Prop := Claim7.holds Tryz.pinned (.plain (OpenSpec.ofChange ruleNotsSpec)) ruleNotsCard

/-- THE SECOND FORM's CARD OF 'ciceronelaw22.RuleHolds'. -/
def ruleHoldsUptoCard : Claim7 := { stood := { row := ruleHoldsUptoRow, standIns := [], harness := (true, "83e4047e51e7f73f23cc1e960e1b62625e447781574dac81ee44c058271f8301"), looks := true }, kinds := [], alts := [], laidByText := true, laidKinds := [.data, .data, .data, .sentinel, .sentinel], laidTests := true, laidLooks := .later }
def RuleHoldsUptoCardSaid : Prop := Claim7.holds Tryz.pinned (.plain (OpenSpec.upto ruleHoldsSpec)) ruleHoldsUptoCard

/-- THE SECOND FORM's CARD OF 'ciceronelaw22.RuleNots'. -/
def ruleNotsUptoCard : Claim7 := { stood := { row := ruleNotsUptoRow, standIns := [], harness := (true, "83e4047e51e7f73f23cc1e960e1b62625e447781574dac81ee44c058271f8301"), looks := true }, kinds := [], alts := [], laidByText := true, laidKinds := [.data, .data, .data, .sentinel, .sentinel], laidTests := true, laidLooks := .later }
def RuleNotsUptoCardSaid : Prop := Claim7.holds Tryz.pinned (.plain (OpenSpec.upto ruleNotsSpec)) ruleNotsUptoCard
end Rows
end Go.Proofs.YtpgbgeofhcpocaaGreatDoor
