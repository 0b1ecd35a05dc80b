/-
  DERIVED. GIVEN WITH THE SEED: THE CARDS: each row of YtphmhbcimhlcjaaGreatDoorRows.lean that lists a variable, with what it lists TIED to the program's text (the seventh form; the later family's looks); each row that meets fmt, with fmt's text TOLD by the authors' own Lean function (tested against real Go, not proved from fmt's source: count such statements apart). THE CARD IS WHAT COUNTS. Prove the row's statement (the work); the ties are given (YtphmhbcimhlcjaaGreatDoorTie.lean); close each card by the builder's one call (the guide's Derived/Test/ToyasCard.lean, 'card_holds'). Laid BY PROGRAM, IN A SANDBOX (cutbox-door.mjs). By AI agents, Wed Nov 11 2026. No macro, syntax, notation, axiom, sorry.
-/
import Derived.Test.YtphmhbcimhlcjaaGreatDoorRows
import GoSem.ClaimSeven
namespace Go.Proofs.YtphmhbcimhlcjaaGreatDoor
namespace Rows

/-- THE TIED CARD OF 'ciceronelaw41.WhynotOf'. -/
def whynotOfCard : Claim7 := { stood := { row := whynotOfRow, standIns := [], harness := (true, "c1465943350216ff68a8048c078ed67a4f68f6b0a2231120cbd0546e65d740df"), looks := true }, kinds := [], alts := [], laidByText := true, laidKinds := [.data, .data, .data, .data, .sentinel, .sentinel, .data, .pinned], laidTests := true, laidLooks := .later }
def WhynotOfCardSaid : Prop := Claim7.holds Tryz.pinned (.plain (OpenSpec.ofChange whynotOfSpec)) whynotOfCard

/-- THE TIED CARD OF 'ciceronelaw41.WhynotTexts'. -/
def whynotTextsCard : Claim7 := { stood := { row := whynotTextsRow, standIns := [], harness := (true, "c1465943350216ff68a8048c078ed67a4f68f6b0a2231120cbd0546e65d740df"), looks := true }, kinds := [], alts := [], laidByText := true, laidKinds := [.data, .data, .data, .data, .sentinel, .sentinel, .data, .data, .pinned], laidTests := true, laidLooks := .later }
def WhynotTextsCardSaid : Prop := Claim7.holds Tryz.pinned (.plain (OpenSpec.ofChange whynotTextsSpec)) whynotTextsCard

/-- THE SECOND FORM's CARD OF 'ciceronelaw41.WhynotOf'. -/
def whynotOfUptoCard : Claim7 := { stood := { row := whynotOfUptoRow, standIns := [], harness := (true, "c1465943350216ff68a8048c078ed67a4f68f6b0a2231120cbd0546e65d740df"), looks := true }, kinds := [], alts := [], laidByText := true, laidKinds := [.data, .data, .data, .data, .sentinel, .sentinel, .data, .pinned], laidTests := true, laidLooks := .later }
def WhynotOfUptoCardSaid : Prop := Claim7.holds Tryz.pinned (.plain (OpenSpec.upto whynotOfSpec)) whynotOfUptoCard

/-- THE SECOND FORM's CARD OF 'ciceronelaw41.WhynotTexts'. -/
def whynotTextsUptoCard : Claim7 := { stood := { row := whynotTextsUptoRow, standIns := [], harness := (true, "c1465943350216ff68a8048c078ed67a4f68f6b0a2231120cbd0546e65d740df"), looks := true }, kinds := [], alts := [], laidByText := true, laidKinds := [.data, .data, .data, .data, .sentinel, .sentinel, .data, .data, .pinned], laidTests := true, laidLooks := .later }
def WhynotTextsUptoCardSaid : Prop := Claim7.holds Tryz.pinned (.plain (OpenSpec.upto whynotTextsSpec)) whynotTextsUptoCard
end Rows
end Go.Proofs.YtphmhbcimhlcjaaGreatDoor
