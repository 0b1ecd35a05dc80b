/-
  DERIVED. GIVEN WITH THE SEED: THE CARDS: each row of YtpnfnmpohacnoaaDoorRows.lean that lists a variable, with what it lists TIED to the program's text (the seventh form; the later family's looks); each row that meets fmt, with fmt's text TOLD by the authors' own Lean function (tested against real Go, not proved from fmt's source: count such statements apart). THE CARD IS WHAT COUNTS. Prove the row's statement (the work); the ties are given (YtpnfnmpohacnoaaDoorTie.lean); close each card by the builder's one call (the guide's Derived/Test/ToyasCard.lean, 'card_holds'). Laid BY PROGRAM, IN A SANDBOX (cutbox-door.mjs). By AI agents, Wed Nov 11 2026. No macro, syntax, notation, axiom, sorry.
-/
import Derived.Test.YtpnfnmpohacnoaaDoorRows
import GoSem.ClaimSeven
namespace Go.Proofs.YtpnfnmpohacnoaaDoor
namespace Rows

/-- THE TIED CARD OF 'ciceronelaw15.CatalogStays'. -/
def catalogStaysCard : Claim7 := { stood := { row := catalogStaysRow, standIns := [], harness := (true, "1db60645544582fcce5a0bd2cfe45e03c430fa944e92e3973868d0f5e6c3f22a"), looks := false }, kinds := [], alts := [], laidByText := true, laidKinds := [.data, .pinned], laidTests := true, laidLooks := .later }
def CatalogStaysCardSaid : Prop := Claim7.holds Tryd.pinned (.plain (OpenSpec.ofChange catalogStaysSpec)) catalogStaysCard

/-- THE TIED CARD OF 'ciceronelaw15.CatalogAhead'. -/
def catalogAheadCard : Claim7 := { stood := { row := catalogAheadRow, standIns := [], harness := (true, "1db60645544582fcce5a0bd2cfe45e03c430fa944e92e3973868d0f5e6c3f22a"), looks := false }, kinds := [], alts := [], laidByText := true, laidKinds := [.data, .pinned], laidTests := true, laidLooks := .later }
def CatalogAheadCardSaid : Prop := Claim7.holds Tryd.pinned (.plain (OpenSpec.ofChange catalogAheadSpec)) catalogAheadCard

/-- THE TIED CARD OF 'ciceronelaw15.CatalogFinds'. -/
def catalogFindsCard : Claim7 := { stood := { row := catalogFindsRow, standIns := [], harness := (true, "1db60645544582fcce5a0bd2cfe45e03c430fa944e92e3973868d0f5e6c3f22a"), looks := false }, kinds := [], alts := [], laidByText := true, laidKinds := [.data, .pinned], laidTests := true, laidLooks := .later }
def CatalogFindsCardSaid : Prop := Claim7.holds Tryd.pinned (.plain (OpenSpec.ofChange catalogFindsSpec)) catalogFindsCard

/-- THE TIED CARD OF 'ciceronelaw15.CatalogRefuses'. -/
def catalogRefusesCard : Claim7 := { stood := { row := catalogRefusesRow, standIns := [], harness := (true, "1db60645544582fcce5a0bd2cfe45e03c430fa944e92e3973868d0f5e6c3f22a"), looks := false }, kinds := [], alts := [], laidByText := true, laidKinds := [.data, .pinned], laidTests := true, laidLooks := .later }
def CatalogRefusesCardSaid : Prop := Claim7.holds Tryd.pinned (.plain (OpenSpec.ofChange catalogRefusesSpec)) catalogRefusesCard

/-- THE TIED CARD OF 'ciceronelaw15.CatalogKeyed'. -/
def catalogKeyedCard : Claim7 := { stood := { row := catalogKeyedRow, standIns := [], harness := (true, "1db60645544582fcce5a0bd2cfe45e03c430fa944e92e3973868d0f5e6c3f22a"), looks := false }, kinds := [], alts := [], laidByText := true, laidKinds := [.data, .pinned], laidTests := true, laidLooks := .later }
def CatalogKeyedCardSaid : Prop := Claim7.holds Tryd.pinned (.plain (OpenSpec.ofChange catalogKeyedSpec)) catalogKeyedCard

/-- THE TIED CARD OF 'ciceronelaw15.CatalogPlays'. -/
def catalogPlaysCard : Claim7 := { stood := { row := catalogPlaysRow, standIns := [], harness := (true, "1db60645544582fcce5a0bd2cfe45e03c430fa944e92e3973868d0f5e6c3f22a"), looks := false }, kinds := [], alts := [], laidByText := true, laidKinds := [.data, .pinned], laidTests := true, laidLooks := .later }
def CatalogPlaysCardSaid : Prop := Claim7.holds Tryd.pinned (.plain (OpenSpec.ofChange catalogPlaysSpec)) catalogPlaysCard

/-- THE SECOND FORM's CARD OF 'ciceronelaw15.CatalogStays'. -/
def catalogStaysUptoCard : Claim7 := { stood := { row := catalogStaysUptoRow, standIns := [], harness := (true, "1db60645544582fcce5a0bd2cfe45e03c430fa944e92e3973868d0f5e6c3f22a"), looks := false }, kinds := [], alts := [], laidByText := true, laidKinds := [.data, .pinned], laidTests := true, laidLooks := .later }
def CatalogStaysUptoCardSaid : Prop := Claim7.holds Tryd.pinned (.plain (OpenSpec.upto catalogStaysSpec)) catalogStaysUptoCard

/-- THE SECOND FORM's CARD OF 'ciceronelaw15.CatalogAhead'. -/
def catalogAheadUptoCard : Claim7 := { stood := { row := catalogAheadUptoRow, standIns := [], harness := (true, "1db60645544582fcce5a0bd2cfe45e03c430fa944e92e3973868d0f5e6c3f22a"), looks := false }, kinds := [], alts := [], laidByText := true, laidKinds := [.data, .pinned], laidTests := true, laidLooks := .later }
def CatalogAheadUptoCardSaid : Prop := Claim7.holds Tryd.pinned (.plain (OpenSpec.upto catalogAheadSpec)) catalogAheadUptoCard

/-- THE SECOND FORM's CARD OF 'ciceronelaw15.CatalogFinds'. -/
def catalogFindsUptoCard : Claim7 := { stood := { row := catalogFindsUptoRow, standIns := [], harness := (true, "1db60645544582fcce5a0bd2cfe45e03c430fa944e92e3973868d0f5e6c3f22a"), looks := false }, kinds := [], alts := [], laidByText := true, laidKinds := [.data, .pinned], laidTests := true, laidLooks := .later }
def CatalogFindsUptoCardSaid : Prop := Claim7.holds Tryd.pinned (.plain (OpenSpec.upto catalogFindsSpec)) catalogFindsUptoCard

/-- THE SECOND FORM's CARD OF 'ciceronelaw15.CatalogRefuses'. -/
def catalogRefusesUptoCard : Claim7 := { stood := { row := catalogRefusesUptoRow, standIns := [], harness := (true, "1db60645544582fcce5a0bd2cfe45e03c430fa944e92e3973868d0f5e6c3f22a"), looks := false }, kinds := [], alts := [], laidByText := true, laidKinds := [.data, .pinned], laidTests := true, laidLooks := .later }
def CatalogRefusesUptoCardSaid : Prop := Claim7.holds Tryd.pinned (.plain (OpenSpec.upto catalogRefusesSpec)) catalogRefusesUptoCard

/-- THE SECOND FORM's CARD OF 'ciceronelaw15.CatalogKeyed'. -/
def catalogKeyedUptoCard : Claim7 := { stood := { row := catalogKeyedUptoRow, standIns := [], harness := (true, "1db60645544582fcce5a0bd2cfe45e03c430fa944e92e3973868d0f5e6c3f22a"), looks := false }, kinds := [], alts := [], laidByText := true, laidKinds := [.data, .pinned], laidTests := true, laidLooks := .later }
def CatalogKeyedUptoCardSaid : Prop := Claim7.holds Tryd.pinned (.plain (OpenSpec.upto catalogKeyedSpec)) catalogKeyedUptoCard

/-- THE SECOND FORM's CARD OF 'ciceronelaw15.CatalogPlays'. -/
def catalogPlaysUptoCard : Claim7 := { stood := { row := catalogPlaysUptoRow, standIns := [], harness := (true, "1db60645544582fcce5a0bd2cfe45e03c430fa944e92e3973868d0f5e6c3f22a"), looks := false }, kinds := [], alts := [], laidByText := true, laidKinds := [.data, .pinned], laidTests := true, laidLooks := .later }
def CatalogPlaysUptoCardSaid : Prop := Claim7.holds Tryd.pinned (.plain (OpenSpec.upto catalogPlaysSpec)) catalogPlaysUptoCard
end Rows
end Go.Proofs.YtpnfnmpohacnoaaDoor
