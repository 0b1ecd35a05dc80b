/-
  DERIVED. GIVEN WITH THE SEED: THE CARDS: each row of YtikbckpphkpaiaaDoorRows.lean that lists a variable, with what it lists TIED to the program's text (the seventh form; the later family's looks); each row that meets fmt, with fmt's text TOLD by the authors' own Lean function (tested against real Go, not proved from fmt's source: count such statements apart). THE CARD IS WHAT COUNTS. Prove the row's statement (the work); the ties are given (YtikbckpphkpaiaaDoorTie.lean); close each card by the builder's one call (the guide's Derived/Test/ToyasCard.lean, 'card_holds'). Laid BY PROGRAM, IN A SANDBOX (cutbox-door.mjs). By AI agents, Wed Nov 11 2026. No macro, syntax, notation, axiom, sorry.
-/
import Derived.Test.YtikbckpphkpaiaaDoorRows
import GoSem.ClaimSeven
namespace Go.Proofs.YtikbckpphkpaiaaDoor
namespace Rows

/-- THE TIED CARD OF 'ciceronelaw46.FeedDiffs'. -/
def feedDiffsCard : Claim7 := { stood := { row := feedDiffsRow, standIns := [], harness := (true, "ed188af4a82dec9a4eec852192dedcb2b5c76cf696019bd6675bef447811cde8"), looks := false }, kinds := [], alts := [], laidByText := true, laidKinds := [.data, .pinned], laidTests := true, laidLooks := .later }
def FeedDiffsCardSaid : Prop := Claim7.holds Tryd.pinned (.plain (OpenSpec.ofChange feedDiffsSpec)) feedDiffsCard

/-- THE TIED CARD OF 'ciceronelaw46.FeedLeads'. -/
def feedLeadsCard : Claim7 := { stood := { row := feedLeadsRow, standIns := [], harness := (true, "ed188af4a82dec9a4eec852192dedcb2b5c76cf696019bd6675bef447811cde8"), looks := false }, kinds := [], alts := [], laidByText := true, laidKinds := [.data, .pinned], laidTests := true, laidLooks := .later }
def FeedLeadsCardSaid : Prop := Claim7.holds Tryd.pinned (.plain (OpenSpec.ofChange feedLeadsSpec)) feedLeadsCard

/-- THE TIED CARD OF 'ciceronelaw46.FeedOrders'. -/
def feedOrdersCard : Claim7 := { stood := { row := feedOrdersRow, standIns := [], harness := (true, "ed188af4a82dec9a4eec852192dedcb2b5c76cf696019bd6675bef447811cde8"), looks := false }, kinds := [], alts := [], laidByText := true, laidKinds := [.data, .pinned], laidTests := true, laidLooks := .later }
def FeedOrdersCardSaid : Prop := Claim7.holds Tryd.pinned (.plain (OpenSpec.ofChange feedOrdersSpec)) feedOrdersCard

/-- THE TIED CARD OF 'ciceronelaw46.FeedPrints'. -/
def feedPrintsCard : Claim7 := { stood := { row := feedPrintsRow, standIns := [], harness := (true, "ed188af4a82dec9a4eec852192dedcb2b5c76cf696019bd6675bef447811cde8"), looks := false }, kinds := [], alts := [], laidByText := true, laidKinds := [.data, .data, .data, .data, .pinned], laidTests := true, laidLooks := .later }
def FeedPrintsCardSaid : Prop := Claim7.holds Tryd.pinned (.plain (OpenSpec.ofChange feedPrintsSpec)) feedPrintsCard

/-- THE SECOND FORM's CARD OF 'ciceronelaw46.FeedDiffs'. -/
def feedDiffsUptoCard : Claim7 := { stood := { row := feedDiffsUptoRow, standIns := [], harness := (true, "ed188af4a82dec9a4eec852192dedcb2b5c76cf696019bd6675bef447811cde8"), looks := false }, kinds := [], alts := [], laidByText := true, laidKinds := [.data, .pinned], laidTests := true, laidLooks := .later }
def FeedDiffsUptoCardSaid : Prop := Claim7.holds Tryd.pinned (.plain (OpenSpec.upto feedDiffsSpec)) feedDiffsUptoCard

/-- THE SECOND FORM's CARD OF 'ciceronelaw46.FeedLeads'. -/
def feedLeadsUptoCard : Claim7 := { stood := { row := feedLeadsUptoRow, standIns := [], harness := (true, "ed188af4a82dec9a4eec852192dedcb2b5c76cf696019bd6675bef447811cde8"), looks := false }, kinds := [], alts := [], laidByText := true, laidKinds := [.data, .pinned], laidTests := true, laidLooks := .later }
def FeedLeadsUptoCardSaid : Prop := Claim7.holds Tryd.pinned (.plain (OpenSpec.upto feedLeadsSpec)) feedLeadsUptoCard

/-- THE SECOND FORM's CARD OF 'ciceronelaw46.FeedOrders'. -/
def feedOrdersUptoCard : Claim7 := { stood := { row := feedOrdersUptoRow, standIns := [], harness := (true, "ed188af4a82dec9a4eec852192dedcb2b5c76cf696019bd6675bef447811cde8"), looks := false }, kinds := [], alts := [], laidByText := true, laidKinds := [.data, .pinned], laidTests := true, laidLooks := .later }
def FeedOrdersUptoCardSaid : Prop := Claim7.holds Tryd.pinned (.plain (OpenSpec.upto feedOrdersSpec)) feedOrdersUptoCard

/-- THE SECOND FORM's CARD OF 'ciceronelaw46.FeedPrints'. -/
def feedPrintsUptoCard : Claim7 := { stood := { row := feedPrintsUptoRow, standIns := [], harness := (true, "ed188af4a82dec9a4eec852192dedcb2b5c76cf696019bd6675bef447811cde8"), looks := false }, kinds := [], alts := [], laidByText := true, laidKinds := [.data, .data, .data, .data, .pinned], laidTests := true, laidLooks := .later }
def FeedPrintsUptoCardSaid : Prop := Claim7.holds Tryd.pinned (.plain (OpenSpec.upto feedPrintsSpec)) feedPrintsUptoCard
end Rows
end Go.Proofs.YtikbckpphkpaiaaDoor
