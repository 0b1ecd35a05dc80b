/-
  DERIVED. GIVEN WITH THE SEED: THE CARDS: each row of YtnpfaajhgghpgaaGreatDoorRows.lean that lists a variable, with what it lists TIED to the program's text (the seventh form; the later family's looks); each row that meets fmt, with fmt's text TOLD by the authors' own Lean function (tested against real Go, not proved from fmt's source: count such statements apart). THE CARD IS WHAT COUNTS. Prove the row's statement (the work); the ties are given (YtnpfaajhgghpgaaGreatDoorTie.lean); close each card by the builder's one call (the guide's Derived/Test/ToyasCard.lean, 'card_holds'). Laid BY PROGRAM, IN A SANDBOX (cutbox-door.mjs). By AI agents, Wed Nov 11 2026. No macro, syntax, notation, axiom, sorry.
-/
import Derived.Test.YtnpfaajhgghpgaaGreatDoorRows
import GoSem.ClaimSeven
namespace Go.Proofs.YtnpfaajhgghpgaaGreatDoor
namespace Rows

/-- THE TIED CARD OF 'ciceronetop.TopWhynot'. -/
def topWhynotCard : Claim7 := { stood := { row := topWhynotRow, standIns := [], harness := (true, "833617469ae940e0195f83d097501123feae0fb3c9d630ab6d6449abf832155b"), looks := true }, kinds := [], alts := [], laidByText := true, laidKinds := [.data, .data, .data, .data, .sentinel, .sentinel, .data, .data, .pinned], laidTests := true, laidLooks := .later }
def TopWhynotCardSaid : Prop := Claim7.holds Tryz.pinned (.plain (OpenSpec.ofChange topWhynotSpec)) topWhynotCard

/-- THE SECOND FORM's CARD OF 'ciceronetop.TopWhynot'. -/
def topWhynotUptoCard : Claim7 := { stood := { row := topWhynotUptoRow, standIns := [], harness := (true, "833617469ae940e0195f83d097501123feae0fb3c9d630ab6d6449abf832155b"), looks := true }, kinds := [], alts := [], laidByText := true, laidKinds := [.data, .data, .data, .data, .sentinel, .sentinel, .data, .data, .pinned], laidTests := true, laidLooks := .later }
def TopWhynotUptoCardSaid : Prop := Claim7.holds Tryz.pinned (.plain (OpenSpec.upto topWhynotSpec)) topWhynotUptoCard
end Rows
end Go.Proofs.YtnpfaajhgghpgaaGreatDoor
