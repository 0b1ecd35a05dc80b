/-
  DERIVED. GIVEN WITH THE SEED: THE CARDS: each row of YtiaklkfdgnhonaaDoorRows.lean that lists a variable, with what it lists TIED to the program's text (the seventh form; the later family's looks); each row that meets fmt, with fmt's text TOLD by the authors' own Lean function (tested against real Go, not proved from fmt's source: count such statements apart). THE CARD IS WHAT COUNTS. Prove the row's statement (the work); the ties are given (YtiaklkfdgnhonaaDoorTie.lean); close each card by the builder's one call (the guide's Derived/Test/ToyasCard.lean, 'card_holds'). Laid BY PROGRAM, IN A SANDBOX (cutbox-door.mjs). By AI agents, Wed Nov 11 2026. No macro, syntax, notation, axiom, sorry.
-/
import Derived.Test.YtiaklkfdgnhonaaDoorRows
import GoSem.ClaimSeven
namespace Go.Proofs.YtiaklkfdgnhonaaDoor
namespace Rows

/-- THE TIED CARD OF 'ciceronelaw25.SlateRanks'. -/
def slateRanksCard : Claim7 := { stood := { row := slateRanksRow, standIns := [], harness := (true, "ccdb4d2858d2a358570352f8b96e341b4fd3f8aa1d29438a8e458f2f6843a1c4"), looks := false }, kinds := [], alts := [], laidByText := true, laidKinds := [.data, .pinned], laidTests := true, laidLooks := .later }
def SlateRanksCardSaid : Prop := Claim7.holds Tryd.pinned (.plain (OpenSpec.ofChange slateRanksSpec)) slateRanksCard

/-- THE TIED CARD OF 'ciceronelaw25.SlateCaps'. -/
def slateCapsCard : Claim7 := { stood := { row := slateCapsRow, standIns := [], harness := (true, "ccdb4d2858d2a358570352f8b96e341b4fd3f8aa1d29438a8e458f2f6843a1c4"), looks := false }, kinds := [], alts := [], laidByText := true, laidKinds := [.data, .pinned], laidTests := true, laidLooks := .later }
def SlateCapsCardSaid : Prop := Claim7.holds Tryd.pinned (.plain (OpenSpec.ofChange slateCapsSpec)) slateCapsCard

/-- THE TIED CARD OF 'ciceronelaw25.SlateLeft'. -/
def slateLeftCard : Claim7 := { stood := { row := slateLeftRow, standIns := [], harness := (true, "ccdb4d2858d2a358570352f8b96e341b4fd3f8aa1d29438a8e458f2f6843a1c4"), looks := false }, kinds := [], alts := [], laidByText := true, laidKinds := [.data, .pinned], laidTests := true, laidLooks := .later }
def SlateLeftCardSaid : Prop := Claim7.holds Tryd.pinned (.plain (OpenSpec.ofChange slateLeftSpec)) slateLeftCard

/-- THE TIED CARD OF 'ciceronelaw25.SlateOrders'. -/
def slateOrdersCard : Claim7 := { stood := { row := slateOrdersRow, standIns := [], harness := (true, "ccdb4d2858d2a358570352f8b96e341b4fd3f8aa1d29438a8e458f2f6843a1c4"), looks := false }, kinds := [], alts := [], laidByText := true, laidKinds := [.data, .pinned], laidTests := true, laidLooks := .later }
def SlateOrdersCardSaid : Prop := Claim7.holds Tryd.pinned (.plain (OpenSpec.ofChange slateOrdersSpec)) slateOrdersCard

/-- THE TIED CARD OF 'ciceronelaw25.SlateFree'. -/
def slateFreeCard : Claim7 := { stood := { row := slateFreeRow, standIns := [], harness := (true, "ccdb4d2858d2a358570352f8b96e341b4fd3f8aa1d29438a8e458f2f6843a1c4"), looks := false }, kinds := [], alts := [], laidByText := true, laidKinds := [.data, .pinned], laidTests := true, laidLooks := .later }
def SlateFreeCardSaid : Prop := Claim7.holds Tryd.pinned (.plain (OpenSpec.ofChange slateFreeSpec)) slateFreeCard

/-- THE TIED CARD OF 'ciceronelaw25.SlateFalls'. -/
def slateFallsCard : Claim7 := { stood := { row := slateFallsRow, standIns := [], harness := (true, "ccdb4d2858d2a358570352f8b96e341b4fd3f8aa1d29438a8e458f2f6843a1c4"), looks := false }, kinds := [], alts := [], laidByText := true, laidKinds := [.data, .pinned], laidTests := true, laidLooks := .later }
def SlateFallsCardSaid : Prop := Claim7.holds Tryd.pinned (.plain (OpenSpec.ofChange slateFallsSpec)) slateFallsCard

/-- THE TIED CARD OF 'ciceronelaw25.SlateMakes'. -/
def slateMakesCard : Claim7 := { stood := { row := slateMakesRow, standIns := [], harness := (true, "ccdb4d2858d2a358570352f8b96e341b4fd3f8aa1d29438a8e458f2f6843a1c4"), looks := false }, kinds := [], alts := [], laidByText := true, laidKinds := [.data, .pinned], laidTests := true, laidLooks := .later }
def SlateMakesCardSaid : Prop := Claim7.holds Tryd.pinned (.plain (OpenSpec.ofChange slateMakesSpec)) slateMakesCard

/-- THE TIED CARD OF 'ciceronelaw25.SlateRights'. -/
def slateRightsCard : Claim7 := { stood := { row := slateRightsRow, standIns := [], harness := (true, "ccdb4d2858d2a358570352f8b96e341b4fd3f8aa1d29438a8e458f2f6843a1c4"), looks := false }, kinds := [], alts := [], laidByText := true, laidKinds := [.data, .pinned], laidTests := true, laidLooks := .later }
def SlateRightsCardSaid : Prop := Claim7.holds Tryd.pinned (.plain (OpenSpec.ofChange slateRightsSpec)) slateRightsCard

/-- THE SECOND FORM's CARD OF 'ciceronelaw25.SlateRanks'. -/
def slateRanksUptoCard : Claim7 := { stood := { row := slateRanksUptoRow, standIns := [], harness := (true, "ccdb4d2858d2a358570352f8b96e341b4fd3f8aa1d29438a8e458f2f6843a1c4"), looks := false }, kinds := [], alts := [], laidByText := true, laidKinds := [.data, .pinned], laidTests := true, laidLooks := .later }
def SlateRanksUptoCardSaid : Prop := Claim7.holds Tryd.pinned (.plain (OpenSpec.upto slateRanksSpec)) slateRanksUptoCard

/-- THE SECOND FORM's CARD OF 'ciceronelaw25.SlateCaps'. -/
def slateCapsUptoCard : Claim7 := { stood := { row := slateCapsUptoRow, standIns := [], harness := (true, "ccdb4d2858d2a358570352f8b96e341b4fd3f8aa1d29438a8e458f2f6843a1c4"), looks := false }, kinds := [], alts := [], laidByText := true, laidKinds := [.data, .pinned], laidTests := true, laidLooks := .later }
def SlateCapsUptoCardSaid : Prop := Claim7.holds Tryd.pinned (.plain (OpenSpec.upto slateCapsSpec)) slateCapsUptoCard

/-- THE SECOND FORM's CARD OF 'ciceronelaw25.SlateLeft'. -/
def slateLeftUptoCard : Claim7 := { stood := { row := slateLeftUptoRow, standIns := [], harness := (true, "ccdb4d2858d2a358570352f8b96e341b4fd3f8aa1d29438a8e458f2f6843a1c4"), looks := false }, kinds := [], alts := [], laidByText := true, laidKinds := [.data, .pinned], laidTests := true, laidLooks := .later }
def SlateLeftUptoCardSaid : Prop := Claim7.holds Tryd.pinned (.plain (OpenSpec.upto slateLeftSpec)) slateLeftUptoCard

/-- THE SECOND FORM's CARD OF 'ciceronelaw25.SlateOrders'. -/
def slateOrdersUptoCard : Claim7 := { stood := { row := slateOrdersUptoRow, standIns := [], harness := (true, "ccdb4d2858d2a358570352f8b96e341b4fd3f8aa1d29438a8e458f2f6843a1c4"), looks := false }, kinds := [], alts := [], laidByText := true, laidKinds := [.data, .pinned], laidTests := true, laidLooks := .later }
def SlateOrdersUptoCardSaid : Prop := Claim7.holds Tryd.pinned (.plain (OpenSpec.upto slateOrdersSpec)) slateOrdersUptoCard

/-- THE SECOND FORM's CARD OF 'ciceronelaw25.SlateFree'. -/
def slateFreeUptoCard : Claim7 := { stood := { row := slateFreeUptoRow, standIns := [], harness := (true, "ccdb4d2858d2a358570352f8b96e341b4fd3f8aa1d29438a8e458f2f6843a1c4"), looks := false }, kinds := [], alts := [], laidByText := true, laidKinds := [.data, .pinned], laidTests := true, laidLooks := .later }
def SlateFreeUptoCardSaid : Prop := Claim7.holds Tryd.pinned (.plain (OpenSpec.upto slateFreeSpec)) slateFreeUptoCard

/-- THE SECOND FORM's CARD OF 'ciceronelaw25.SlateFalls'. -/
def slateFallsUptoCard : Claim7 := { stood := { row := slateFallsUptoRow, standIns := [], harness := (true, "ccdb4d2858d2a358570352f8b96e341b4fd3f8aa1d29438a8e458f2f6843a1c4"), looks := false }, kinds := [], alts := [], laidByText := true, laidKinds := [.data, .pinned], laidTests := true, laidLooks := .later }
def SlateFallsUptoCardSaid : Prop := Claim7.holds Tryd.pinned (.plain (OpenSpec.upto slateFallsSpec)) slateFallsUptoCard

/-- THE SECOND FORM's CARD OF 'ciceronelaw25.SlateMakes'. -/
def slateMakesUptoCard : Claim7 := { stood := { row := slateMakesUptoRow, standIns := [], harness := (true, "ccdb4d2858d2a358570352f8b96e341b4fd3f8aa1d29438a8e458f2f6843a1c4"), looks := false }, kinds := [], alts := [], laidByText := true, laidKinds := [.data, .pinned], laidTests := true, laidLooks := .later }
def SlateMakesUptoCardSaid : Prop := Claim7.holds Tryd.pinned (.plain (OpenSpec.upto slateMakesSpec)) slateMakesUptoCard

/-- THE SECOND FORM's CARD OF 'ciceronelaw25.SlateRights'. -/
def slateRightsUptoCard : Claim7 := { stood := { row := slateRightsUptoRow, standIns := [], harness := (true, "ccdb4d2858d2a358570352f8b96e341b4fd3f8aa1d29438a8e458f2f6843a1c4"), looks := false }, kinds := [], alts := [], laidByText := true, laidKinds := [.data, .pinned], laidTests := true, laidLooks := .later }
def SlateRightsUptoCardSaid : Prop := Claim7.holds Tryd.pinned (.plain (OpenSpec.upto slateRightsSpec)) slateRightsUptoCard
end Rows
end Go.Proofs.YtiaklkfdgnhonaaDoor
