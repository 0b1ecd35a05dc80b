/-
  DERIVED. GIVEN WITH THE SEED: THE CARDS: each row of YtcgangmmehbdoaaDoorRows.lean that lists a variable, with what it lists TIED to the program's text (the seventh form; the later family's looks); each row that meets fmt, with fmt's text TOLD by the authors' own Lean function (tested against real Go, not proved from fmt's source: count such statements apart). THE CARD IS WHAT COUNTS. Prove the row's statement (the work); the ties are given (YtcgangmmehbdoaaDoorTie.lean); close each card by the builder's one call (the guide's Derived/Test/ToyasCard.lean, 'card_holds'). Laid BY PROGRAM, IN A SANDBOX (cutbox-door.mjs). By AI agents, Wed Nov 11 2026. No macro, syntax, notation, axiom, sorry.
-/
import Derived.Test.YtcgangmmehbdoaaDoorRows
import GoSem.ClaimSeven
namespace Go.Proofs.YtcgangmmehbdoaaDoor
namespace Rows

/-- THE TIED CARD OF 'ciceronelaw38.BasketCounts'. -/
def basketCountsCard : Claim7 := { stood := { row := basketCountsRow, standIns := [], harness := (true, "e1ee518d0505e78113574d11839d99cee15e655ef466aa242eef20f011e2839c"), looks := false }, kinds := [], alts := [], laidByText := true, laidKinds := [.data, .pinned], laidTests := true, laidLooks := .later }
def BasketCountsCardSaid : Prop := Claim7.holds Tryd.pinned (.plain (OpenSpec.ofChange basketCountsSpec)) basketCountsCard

/-- THE TIED CARD OF 'ciceronelaw38.BasketApart'. -/
def basketApartCard : Claim7 := { stood := { row := basketApartRow, standIns := [], harness := (true, "e1ee518d0505e78113574d11839d99cee15e655ef466aa242eef20f011e2839c"), looks := false }, kinds := [], alts := [], laidByText := true, laidKinds := [.data, .pinned], laidTests := true, laidLooks := .later }
def BasketApartCardSaid : Prop := Claim7.holds Tryd.pinned (.plain (OpenSpec.ofChange basketApartSpec)) basketApartCard

/-- THE TIED CARD OF 'ciceronelaw38.BasketBounds'. -/
def basketBoundsCard : Claim7 := { stood := { row := basketBoundsRow, standIns := [], harness := (true, "e1ee518d0505e78113574d11839d99cee15e655ef466aa242eef20f011e2839c"), looks := false }, kinds := [], alts := [], laidByText := true, laidKinds := [.data, .pinned], laidTests := true, laidLooks := .later }
def BasketBoundsCardSaid : Prop := Claim7.holds Tryd.pinned (.plain (OpenSpec.ofChange basketBoundsSpec)) basketBoundsCard

/-- THE TIED CARD OF 'ciceronelaw38.BasketPairs'. -/
def basketPairsCard : Claim7 := { stood := { row := basketPairsRow, standIns := [], harness := (true, "e1ee518d0505e78113574d11839d99cee15e655ef466aa242eef20f011e2839c"), looks := false }, kinds := [], alts := [], laidByText := true, laidKinds := [.data, .pinned], laidTests := true, laidLooks := .later }
def BasketPairsCardSaid : Prop := Claim7.holds Tryd.pinned (.plain (OpenSpec.ofChange basketPairsSpec)) basketPairsCard

/-- THE TIED CARD OF 'ciceronelaw38.BasketOrders'. -/
def basketOrdersCard : Claim7 := { stood := { row := basketOrdersRow, standIns := [], harness := (true, "e1ee518d0505e78113574d11839d99cee15e655ef466aa242eef20f011e2839c"), looks := false }, kinds := [], alts := [], laidByText := true, laidKinds := [.data, .pinned], laidTests := true, laidLooks := .later }
def BasketOrdersCardSaid : Prop := Claim7.holds Tryd.pinned (.plain (OpenSpec.ofChange basketOrdersSpec)) basketOrdersCard

/-- THE SECOND FORM's CARD OF 'ciceronelaw38.BasketCounts'. -/
def basketCountsUptoCard : Claim7 := { stood := { row := basketCountsUptoRow, standIns := [], harness := (true, "e1ee518d0505e78113574d11839d99cee15e655ef466aa242eef20f011e2839c"), looks := false }, kinds := [], alts := [], laidByText := true, laidKinds := [.data, .pinned], laidTests := true, laidLooks := .later }
def BasketCountsUptoCardSaid : Prop := Claim7.holds Tryd.pinned (.plain (OpenSpec.upto basketCountsSpec)) basketCountsUptoCard

/-- THE SECOND FORM's CARD OF 'ciceronelaw38.BasketApart'. -/
def basketApartUptoCard : Claim7 := { stood := { row := basketApartUptoRow, standIns := [], harness := (true, "e1ee518d0505e78113574d11839d99cee15e655ef466aa242eef20f011e2839c"), looks := false }, kinds := [], alts := [], laidByText := true, laidKinds := [.data, .pinned], laidTests := true, laidLooks := .later }
def BasketApartUptoCardSaid : Prop := Claim7.holds Tryd.pinned (.plain (OpenSpec.upto basketApartSpec)) basketApartUptoCard

/-- THE SECOND FORM's CARD OF 'ciceronelaw38.BasketBounds'. -/
def basketBoundsUptoCard : Claim7 := { stood := { row := basketBoundsUptoRow, standIns := [], harness := (true, "e1ee518d0505e78113574d11839d99cee15e655ef466aa242eef20f011e2839c"), looks := false }, kinds := [], alts := [], laidByText := true, laidKinds := [.data, .pinned], laidTests := true, laidLooks := .later }
def BasketBoundsUptoCardSaid : Prop := Claim7.holds Tryd.pinned (.plain (OpenSpec.upto basketBoundsSpec)) basketBoundsUptoCard

/-- THE SECOND FORM's CARD OF 'ciceronelaw38.BasketPairs'. -/
def basketPairsUptoCard : Claim7 := { stood := { row := basketPairsUptoRow, standIns := [], harness := (true, "e1ee518d0505e78113574d11839d99cee15e655ef466aa242eef20f011e2839c"), looks := false }, kinds := [], alts := [], laidByText := true, laidKinds := [.data, .pinned], laidTests := true, laidLooks := .later }
def BasketPairsUptoCardSaid : Prop := Claim7.holds Tryd.pinned (.plain (OpenSpec.upto basketPairsSpec)) basketPairsUptoCard

/-- THE SECOND FORM's CARD OF 'ciceronelaw38.BasketOrders'. -/
def basketOrdersUptoCard : Claim7 := { stood := { row := basketOrdersUptoRow, standIns := [], harness := (true, "e1ee518d0505e78113574d11839d99cee15e655ef466aa242eef20f011e2839c"), looks := false }, kinds := [], alts := [], laidByText := true, laidKinds := [.data, .pinned], laidTests := true, laidLooks := .later }
def BasketOrdersUptoCardSaid : Prop := Claim7.holds Tryd.pinned (.plain (OpenSpec.upto basketOrdersSpec)) basketOrdersUptoCard
end Rows
end Go.Proofs.YtcgangmmehbdoaaDoor
