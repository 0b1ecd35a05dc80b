/-
  DERIVED. GIVEN WITH THE SEED: THE CARDS: each row of YtikbckpphkpaiaaGreatDoorRows.lean that lists a variable, with what it lists TIED to the program's text (the seventh form; the later family's looks); each row that meets fmt, with fmt's text TOLD by the authors' own Lean function (tested against real Go, not proved from fmt's source: count such statements apart). THE CARD IS WHAT COUNTS. Prove the row's statement (the work); the ties are given (YtikbckpphkpaiaaGreatDoorTie.lean); close each card by the builder's one call (the guide's Derived/Test/ToyasCard.lean, 'card_holds'). Laid BY PROGRAM, IN A SANDBOX (cutbox-door.mjs). By AI agents, Wed Nov 11 2026. No macro, syntax, notation, axiom, sorry.
-/
import Derived.Test.YtikbckpphkpaiaaGreatDoorRows
import GoSem.ClaimSeven
namespace Go.Proofs.YtikbckpphkpaiaaGreatDoor
namespace Rows

/-- THE TIED CARD OF 'ciceronelaw46.FeedParses'. -/
def feedParsesCard : Claim7 := { stood := { row := feedParsesRow, standIns := [], harness := (true, "a6bdd5c6dace90a11126bad6548e8f91d6bbe6998cdb1d4fe65637e02a098851"), looks := true }, kinds := [], alts := [], laidByText := true, laidKinds := [.data, .data, .data, .data, .sentinel, .sentinel, .pinned], laidTests := true, laidLooks := .later }
def FeedParsesCardSaid : Prop := Claim7.holds Tryz.pinned (.plain (OpenSpec.ofChange feedParsesSpec)) feedParsesCard

/-- THE TIED CARD OF 'ciceronelaw46.FeedBack'. -/
def feedBackCard : Claim7 := { stood := { row := feedBackRow, standIns := [], harness := (true, "a6bdd5c6dace90a11126bad6548e8f91d6bbe6998cdb1d4fe65637e02a098851"), looks := true }, kinds := [], alts := [], laidByText := true, laidKinds := [.data, .data, .data, .data, .sentinel, .sentinel, .pinned], laidTests := true, laidLooks := .later }
def FeedBackCardSaid : Prop := Claim7.holds Tryz.pinned (.plain (OpenSpec.ofChange feedBackSpec)) feedBackCard

/-- THE SECOND FORM's CARD OF 'ciceronelaw46.FeedParses'. -/
def feedParsesUptoCard : Claim7 := { stood := { row := feedParsesUptoRow, standIns := [], harness := (true, "a6bdd5c6dace90a11126bad6548e8f91d6bbe6998cdb1d4fe65637e02a098851"), looks := true }, kinds := [], alts := [], laidByText := true, laidKinds := [.data, .data, .data, .data, .sentinel, .sentinel, .pinned], laidTests := true, laidLooks := .later }
def FeedParsesUptoCardSaid : Prop := Claim7.holds Tryz.pinned (.plain (OpenSpec.upto feedParsesSpec)) feedParsesUptoCard

/-- THE SECOND FORM's CARD OF 'ciceronelaw46.FeedBack'. -/
def feedBackUptoCard : Claim7 := { stood := { row := feedBackUptoRow, standIns := [], harness := (true, "a6bdd5c6dace90a11126bad6548e8f91d6bbe6998cdb1d4fe65637e02a098851"), looks := true }, kinds := [], alts := [], laidByText := true, laidKinds := [.data, .data, .data, .data, .sentinel, .sentinel, .pinned], laidTests := true, laidLooks := .later }
def FeedBackUptoCardSaid : Prop := Claim7.holds Tryz.pinned (.plain (OpenSpec.upto feedBackSpec)) feedBackUptoCard
end Rows
end Go.Proofs.YtikbckpphkpaiaaGreatDoor
