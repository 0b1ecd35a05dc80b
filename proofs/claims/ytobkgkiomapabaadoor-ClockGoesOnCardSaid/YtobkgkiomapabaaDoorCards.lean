/-
  DERIVED. GIVEN WITH THE SEED: THE CARDS: each row of YtobkgkiomapabaaDoorRows.lean that lists a variable, with what it lists TIED to the program's text (the seventh form; the later family's looks); each row that meets fmt, with fmt's text TOLD by the authors' own Lean function (tested against real Go, not proved from fmt's source: count such statements apart). THE CARD IS WHAT COUNTS. Prove the row's statement (the work); the ties are given (YtobkgkiomapabaaDoorTie.lean); close each card by the builder's one call (the guide's Derived/Test/ToyasCard.lean, 'card_holds'). Laid BY PROGRAM, IN A SANDBOX (cutbox-door.mjs). By AI agents, Wed Nov 11 2026. No macro, syntax, notation, axiom, sorry.
-/
import Derived.Test.YtobkgkiomapabaaDoorRows
import GoSem.ClaimSeven
namespace Go.Proofs.YtobkgkiomapabaaDoor
namespace Rows

/-- THE TIED CARD OF 'ciceronelaw06.ClockPlays'. -/
def clockPlaysCard : Claim7 := { stood := { row := clockPlaysRow, standIns := [], harness := (true, "d59eb9df4c4f5541a97f74efb969fcaf7f1ebc0d0dd53500323695d351b2c55c"), looks := true }, kinds := [], alts := [], laidByText := true, laidKinds := [.data, .data, .data], laidTests := true, laidLooks := .later }
def ClockPlaysCardSaid : Prop := Claim7.holds Tryd.pinned (.plain (OpenSpec.ofChange clockPlaysSpec)) clockPlaysCard

/-- THE TIED CARD OF 'ciceronelaw06.ClockGoesOn'. -/
def clockGoesOnCard : Claim7 := { stood := { row := clockGoesOnRow, standIns := [], harness := (true, "d59eb9df4c4f5541a97f74efb969fcaf7f1ebc0d0dd53500323695d351b2c55c"), looks := true }, kinds := [], alts := [], laidByText := true, laidKinds := [.data, .data, .data, .data, .sentinel, .sentinel, .pinned], laidTests := true, laidLooks := .later }
def ClockGoesOnCardSaid : Prop := Claim7.holds Tryd.pinned (.plain (OpenSpec.ofChange clockGoesOnSpec)) clockGoesOnCard

/-- THE SECOND FORM's CARD OF 'ciceronelaw06.ClockPlays'. -/
def clockPlaysUptoCard : Claim7 := { stood := { row := clockPlaysUptoRow, standIns := [], harness := (true, "d59eb9df4c4f5541a97f74efb969fcaf7f1ebc0d0dd53500323695d351b2c55c"), looks := true }, kinds := [], alts := [], laidByText := true, laidKinds := [.data, .data, .data], laidTests := true, laidLooks := .later }
def ClockPlaysUptoCardSaid : Prop := Claim7.holds Tryd.pinned (.plain (OpenSpec.upto clockPlaysSpec)) clockPlaysUptoCard

/-- THE SECOND FORM's CARD OF 'ciceronelaw06.ClockGoesOn'. -/
def clockGoesOnUptoCard : Claim7 := { stood := { row := clockGoesOnUptoRow, standIns := [], harness := (true, "d59eb9df4c4f5541a97f74efb969fcaf7f1ebc0d0dd53500323695d351b2c55c"), looks := true }, kinds := [], alts := [], laidByText := true, laidKinds := [.data, .data, .data, .data, .sentinel, .sentinel, .pinned], laidTests := true, laidLooks := .later }
def ClockGoesOnUptoCardSaid : Prop := Claim7.holds Tryd.pinned (.plain (OpenSpec.upto clockGoesOnSpec)) clockGoesOnUptoCard
end Rows
end Go.Proofs.YtobkgkiomapabaaDoor
