/-
  DERIVED. GIVEN WITH THE SEED: THE CARDS: each row of YtdcinodbgbkobaaGreatDoorRows.lean that lists a variable, with what it lists TIED to the program's text (the seventh form; the later family's looks); each row that meets fmt, with fmt's text TOLD by the authors' own Lean function (tested against real Go, not proved from fmt's source: count such statements apart). THE CARD IS WHAT COUNTS. Prove the row's statement (the work); the ties are given (YtdcinodbgbkobaaGreatDoorTie.lean); close each card by the builder's one call (the guide's Derived/Test/ToyasCard.lean, 'card_holds'). Laid BY PROGRAM, IN A SANDBOX (cutbox-door.mjs). By AI agents, Wed Nov 11 2026. No macro, syntax, notation, axiom, sorry.
-/
import Derived.Test.YtdcinodbgbkobaaGreatDoorRows
import GoSem.ClaimSeven
namespace Go.Proofs.YtdcinodbgbkobaaGreatDoor
namespace Rows

/-- THE TIED CARD OF 'ciceronetop.TopFeed'. -/
def topFeedCard : Claim7 := { stood := { row := topFeedRow, standIns := [], harness := (true, "74eb09a631a2c3c9b65d55b7f2baa227016ea837aaa914d12758246b3c8f7644"), looks := true }, kinds := [], alts := [], laidByText := true, laidKinds := [.data, .data, .data, .data, .sentinel, .sentinel, .data, .pinned], laidTests := true, laidLooks := .later }
def TopFeedCardSaid : Prop := Claim7.holds Tryz.pinned (.plain (OpenSpec.ofChange topFeedSpec)) topFeedCard

/-- THE SECOND FORM's CARD OF 'ciceronetop.TopFeed'. -/
def topFeedUptoCard : Claim7 := { stood := { row := topFeedUptoRow, standIns := [], harness := (true, "74eb09a631a2c3c9b65d55b7f2baa227016ea837aaa914d12758246b3c8f7644"), looks := true }, kinds := [], alts := [], laidByText := true, laidKinds := [.data, .data, .data, .data, .sentinel, .sentinel, .data, .pinned], laidTests := true, laidLooks := .later }
def TopFeedUptoCardSaid : Prop := Claim7.holds Tryz.pinned (.plain (OpenSpec.upto topFeedSpec)) topFeedUptoCard
end Rows
end Go.Proofs.YtdcinodbgbkobaaGreatDoor
