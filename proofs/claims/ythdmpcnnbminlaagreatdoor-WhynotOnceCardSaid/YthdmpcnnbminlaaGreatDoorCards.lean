/-
  DERIVED. GIVEN WITH THE SEED: THE CARDS: each row of YthdmpcnnbminlaaGreatDoorRows.lean that lists a variable, with what it lists TIED to the program's text (the seventh form; the later family's looks); each row that meets fmt, with fmt's text TOLD by the authors' own Lean function (tested against real Go, not proved from fmt's source: count such statements apart). THE CARD IS WHAT COUNTS. Prove the row's statement (the work); the ties are given (YthdmpcnnbminlaaGreatDoorTie.lean); close each card by the builder's one call (the guide's Derived/Test/ToyasCard.lean, 'card_holds'). Laid BY PROGRAM, IN A SANDBOX (cutbox-door.mjs). By AI agents, Wed Nov 11 2026. No macro, syntax, notation, axiom, sorry.
-/
import Derived.Test.YthdmpcnnbminlaaGreatDoorRows
import GoSem.ClaimSeven
namespace Go.Proofs.YthdmpcnnbminlaaGreatDoor
namespace Rows

/-- THE TIED CARD OF 'ciceronelaw24.FilterApart'. -/
def filterApartCard : Claim7 := { stood := { row := filterApartRow, standIns := [], harness := (true, "62dae835c1519e99da914ba63e0ae22a09fe7e86963eb32e6a26cc9c2e41ce8e"), looks := true }, kinds := [], alts := [], laidByText := true, laidKinds := [.data, .data, .data, .data, .data, .data, .pinned], laidTests := true, laidLooks := .later }
def FilterApartCardSaid : Prop := Claim7.holds Tryz.pinned (.plain (OpenSpec.ofChange filterApartSpec)) filterApartCard

/-- THE TIED CARD OF 'ciceronelaw24.FilterTells'. -/
def filterTellsCard : Claim7 := { stood := { row := filterTellsRow, standIns := [], harness := (true, "62dae835c1519e99da914ba63e0ae22a09fe7e86963eb32e6a26cc9c2e41ce8e"), looks := true }, kinds := [], alts := [], laidByText := true, laidKinds := [.data, .data, .data, .data, .sentinel, .sentinel, .data, .data, .pinned], laidTests := true, laidLooks := .later }
def FilterTellsCardSaid : Prop := Claim7.holds Tryz.pinned (.plain (OpenSpec.ofChange filterTellsSpec)) filterTellsCard

/-- THE TIED CARD OF 'ciceronelaw24.FilterPasses'. -/
def filterPassesCard : Claim7 := { stood := { row := filterPassesRow, standIns := [], harness := (true, "62dae835c1519e99da914ba63e0ae22a09fe7e86963eb32e6a26cc9c2e41ce8e"), looks := true }, kinds := [], alts := [], laidByText := true, laidKinds := [.data, .data, .data, .data, .sentinel, .sentinel, .data, .data, .pinned], laidTests := true, laidLooks := .later }
def FilterPassesCardSaid : Prop := Claim7.holds Tryz.pinned (.plain (OpenSpec.ofChange filterPassesSpec)) filterPassesCard

/-- THE TIED CARD OF 'ciceronelaw24.FilterFirst'. -/
def filterFirstCard : Claim7 := { stood := { row := filterFirstRow, standIns := [], harness := (true, "62dae835c1519e99da914ba63e0ae22a09fe7e86963eb32e6a26cc9c2e41ce8e"), looks := true }, kinds := [], alts := [], laidByText := true, laidKinds := [.data, .data, .data, .data, .sentinel, .sentinel, .data, .data, .pinned], laidTests := true, laidLooks := .later }
def FilterFirstCardSaid : Prop := Claim7.holds Tryz.pinned (.plain (OpenSpec.ofChange filterFirstSpec)) filterFirstCard

/-- THE TIED CARD OF 'ciceronelaw24.FilterRules'. -/
def filterRulesCard : Claim7 := { stood := { row := filterRulesRow, standIns := [], harness := (true, "62dae835c1519e99da914ba63e0ae22a09fe7e86963eb32e6a26cc9c2e41ce8e"), looks := true }, kinds := [], alts := [], laidByText := true, laidKinds := [.data, .data, .data, .data, .sentinel, .sentinel, .data, .data, .pinned], laidTests := true, laidLooks := .later }
def FilterRulesCardSaid : Prop := Claim7.holds Tryz.pinned (.plain (OpenSpec.ofChange filterRulesSpec)) filterRulesCard

/-- THE TIED CARD OF 'ciceronelaw24.FilterSafe'. -/
def filterSafeCard : Claim7 := { stood := { row := filterSafeRow, standIns := [], harness := (true, "62dae835c1519e99da914ba63e0ae22a09fe7e86963eb32e6a26cc9c2e41ce8e"), looks := true }, kinds := [], alts := [], laidByText := true, laidKinds := [.data, .data, .data, .data, .sentinel, .sentinel, .data, .data, .pinned], laidTests := true, laidLooks := .later }
def FilterSafeCardSaid : Prop := Claim7.holds Tryz.pinned (.plain (OpenSpec.ofChange filterSafeSpec)) filterSafeCard

/-- THE TIED CARD OF 'ciceronelaw41.WhynotOf'. -/
def whynotOfCard : Claim7 := { stood := { row := whynotOfRow, standIns := [], harness := (true, "62dae835c1519e99da914ba63e0ae22a09fe7e86963eb32e6a26cc9c2e41ce8e"), looks := true }, kinds := [], alts := [], laidByText := true, laidKinds := [.data, .data, .data, .data, .sentinel, .sentinel, .data, .pinned], laidTests := true, laidLooks := .later }
def WhynotOfCardSaid : Prop := Claim7.holds Tryz.pinned (.plain (OpenSpec.ofChange whynotOfSpec)) whynotOfCard

/-- THE TIED CARD OF 'ciceronelaw41.WhynotCures'. -/
def whynotCuresCard : Claim7 := { stood := { row := whynotCuresRow, standIns := [], harness := (true, "62dae835c1519e99da914ba63e0ae22a09fe7e86963eb32e6a26cc9c2e41ce8e"), looks := true }, kinds := [], alts := [], laidByText := true, laidKinds := [.data, .data, .data, .data, .sentinel, .sentinel, .data, .pinned], laidTests := true, laidLooks := .later }
def WhynotCuresCardSaid : Prop := Claim7.holds Tryz.pinned (.plain (OpenSpec.ofChange whynotCuresSpec)) whynotCuresCard

/-- THE TIED CARD OF 'ciceronelaw41.WhynotOnce'. -/
def whynotOnceCard : Claim7 := { stood := { row := whynotOnceRow, standIns := [], harness := (true, "62dae835c1519e99da914ba63e0ae22a09fe7e86963eb32e6a26cc9c2e41ce8e"), looks := true }, kinds := [], alts := [], laidByText := true, laidKinds := [.data, .data, .data, .data, .sentinel, .sentinel, .data, .pinned], laidTests := true, laidLooks := .later }
def WhynotOnceCardSaid : Prop := Claim7.holds Tryz.pinned (.plain (OpenSpec.ofChange whynotOnceSpec)) whynotOnceCard

/-- THE TIED CARD OF 'ciceronelaw41.WhynotShown'. -/
def whynotShownCard : Claim7 := { stood := { row := whynotShownRow, standIns := [], harness := (true, "62dae835c1519e99da914ba63e0ae22a09fe7e86963eb32e6a26cc9c2e41ce8e"), looks := true }, kinds := [], alts := [], laidByText := true, laidKinds := [.data, .data, .data, .data, .sentinel, .sentinel, .data, .pinned], laidTests := true, laidLooks := .later }
def WhynotShownCardSaid : Prop := Claim7.holds Tryz.pinned (.plain (OpenSpec.ofChange whynotShownSpec)) whynotShownCard

/-- THE TIED CARD OF 'ciceronelaw41.WhynotSpoilt'. -/
def whynotSpoiltCard : Claim7 := { stood := { row := whynotSpoiltRow, standIns := [], harness := (true, "62dae835c1519e99da914ba63e0ae22a09fe7e86963eb32e6a26cc9c2e41ce8e"), looks := true }, kinds := [], alts := [], laidByText := true, laidKinds := [.data, .data, .data, .data, .sentinel, .sentinel, .data, .pinned], laidTests := true, laidLooks := .later }
def WhynotSpoiltCardSaid : Prop := Claim7.holds Tryz.pinned (.plain (OpenSpec.ofChange whynotSpoiltSpec)) whynotSpoiltCard

/-- THE TIED CARD OF 'ciceronelaw41.WhynotTexts'. -/
def whynotTextsCard : Claim7 := { stood := { row := whynotTextsRow, standIns := [], harness := (true, "62dae835c1519e99da914ba63e0ae22a09fe7e86963eb32e6a26cc9c2e41ce8e"), looks := true }, kinds := [], alts := [], laidByText := true, laidKinds := [.data, .data, .data, .data, .sentinel, .sentinel, .data, .data, .pinned], laidTests := true, laidLooks := .later }
def WhynotTextsCardSaid : Prop := Claim7.holds Tryz.pinned (.plain (OpenSpec.ofChange whynotTextsSpec)) whynotTextsCard

/-- THE SECOND FORM's CARD OF 'ciceronelaw24.FilterApart'. -/
def filterApartUptoCard : Claim7 := { stood := { row := filterApartUptoRow, standIns := [], harness := (true, "62dae835c1519e99da914ba63e0ae22a09fe7e86963eb32e6a26cc9c2e41ce8e"), looks := true }, kinds := [], alts := [], laidByText := true, laidKinds := [.data, .data, .data, .data, .data, .data, .pinned], laidTests := true, laidLooks := .later }
def FilterApartUptoCardSaid : Prop := Claim7.holds Tryz.pinned (.plain (OpenSpec.upto filterApartSpec)) filterApartUptoCard

/-- THE SECOND FORM's CARD OF 'ciceronelaw24.FilterTells'. -/
def filterTellsUptoCard : Claim7 := { stood := { row := filterTellsUptoRow, standIns := [], harness := (true, "62dae835c1519e99da914ba63e0ae22a09fe7e86963eb32e6a26cc9c2e41ce8e"), looks := true }, kinds := [], alts := [], laidByText := true, laidKinds := [.data, .data, .data, .data, .sentinel, .sentinel, .data, .data, .pinned], laidTests := true, laidLooks := .later }
def FilterTellsUptoCardSaid : Prop := Claim7.holds Tryz.pinned (.plain (OpenSpec.upto filterTellsSpec)) filterTellsUptoCard

/-- THE SECOND FORM's CARD OF 'ciceronelaw24.FilterPasses'. -/
def filterPassesUptoCard : Claim7 := { stood := { row := filterPassesUptoRow, standIns := [], harness := (true, "62dae835c1519e99da914ba63e0ae22a09fe7e86963eb32e6a26cc9c2e41ce8e"), looks := true }, kinds := [], alts := [], laidByText := true, laidKinds := [.data, .data, .data, .data, .sentinel, .sentinel, .data, .data, .pinned], laidTests := true, laidLooks := .later }
def FilterPassesUptoCardSaid : Prop := Claim7.holds Tryz.pinned (.plain (OpenSpec.upto filterPassesSpec)) filterPassesUptoCard

/-- THE SECOND FORM's CARD OF 'ciceronelaw24.FilterFirst'. -/
def filterFirstUptoCard : Claim7 := { stood := { row := filterFirstUptoRow, standIns := [], harness := (true, "62dae835c1519e99da914ba63e0ae22a09fe7e86963eb32e6a26cc9c2e41ce8e"), looks := true }, kinds := [], alts := [], laidByText := true, laidKinds := [.data, .data, .data, .data, .sentinel, .sentinel, .data, .data, .pinned], laidTests := true, laidLooks := .later }
def FilterFirstUptoCardSaid : Prop := Claim7.holds Tryz.pinned (.plain (OpenSpec.upto filterFirstSpec)) filterFirstUptoCard

/-- THE SECOND FORM's CARD OF 'ciceronelaw24.FilterRules'. -/
def filterRulesUptoCard : Claim7 := { stood := { row := filterRulesUptoRow, standIns := [], harness := (true, "62dae835c1519e99da914ba63e0ae22a09fe7e86963eb32e6a26cc9c2e41ce8e"), looks := true }, kinds := [], alts := [], laidByText := true, laidKinds := [.data, .data, .data, .data, .sentinel, .sentinel, .data, .data, .pinned], laidTests := true, laidLooks := .later }
def FilterRulesUptoCardSaid : Prop := Claim7.holds Tryz.pinned (.plain (OpenSpec.upto filterRulesSpec)) filterRulesUptoCard

/-- THE SECOND FORM's CARD OF 'ciceronelaw24.FilterSafe'. -/
def filterSafeUptoCard : Claim7 := { stood := { row := filterSafeUptoRow, standIns := [], harness := (true, "62dae835c1519e99da914ba63e0ae22a09fe7e86963eb32e6a26cc9c2e41ce8e"), looks := true }, kinds := [], alts := [], laidByText := true, laidKinds := [.data, .data, .data, .data, .sentinel, .sentinel, .data, .data, .pinned], laidTests := true, laidLooks := .later }
def FilterSafeUptoCardSaid : Prop := Claim7.holds Tryz.pinned (.plain (OpenSpec.upto filterSafeSpec)) filterSafeUptoCard

/-- THE SECOND FORM's CARD OF 'ciceronelaw41.WhynotOf'. -/
def whynotOfUptoCard : Claim7 := { stood := { row := whynotOfUptoRow, standIns := [], harness := (true, "62dae835c1519e99da914ba63e0ae22a09fe7e86963eb32e6a26cc9c2e41ce8e"), looks := true }, kinds := [], alts := [], laidByText := true, laidKinds := [.data, .data, .data, .data, .sentinel, .sentinel, .data, .pinned], laidTests := true, laidLooks := .later }
def WhynotOfUptoCardSaid : Prop := Claim7.holds Tryz.pinned (.plain (OpenSpec.upto whynotOfSpec)) whynotOfUptoCard

/-- THE SECOND FORM's CARD OF 'ciceronelaw41.WhynotCures'. -/
def whynotCuresUptoCard : Claim7 := { stood := { row := whynotCuresUptoRow, standIns := [], harness := (true, "62dae835c1519e99da914ba63e0ae22a09fe7e86963eb32e6a26cc9c2e41ce8e"), looks := true }, kinds := [], alts := [], laidByText := true, laidKinds := [.data, .data, .data, .data, .sentinel, .sentinel, .data, .pinned], laidTests := true, laidLooks := .later }
def WhynotCuresUptoCardSaid : Prop := Claim7.holds Tryz.pinned (.plain (OpenSpec.upto whynotCuresSpec)) whynotCuresUptoCard

/-- THE SECOND FORM's CARD OF 'ciceronelaw41.WhynotOnce'. -/
def whynotOnceUptoCard : Claim7 := { stood := { row := whynotOnceUptoRow, standIns := [], harness := (true, "62dae835c1519e99da914ba63e0ae22a09fe7e86963eb32e6a26cc9c2e41ce8e"), looks := true }, kinds := [], alts := [], laidByText := true, laidKinds := [.data, .data, .data, .data, .sentinel, .sentinel, .data, .pinned], laidTests := true, laidLooks := .later }
def WhynotOnceUptoCardSaid : Prop := Claim7.holds Tryz.pinned (.plain (OpenSpec.upto whynotOnceSpec)) whynotOnceUptoCard

/-- THE SECOND FORM's CARD OF 'ciceronelaw41.WhynotShown'. -/
def whynotShownUptoCard : Claim7 := { stood := { row := whynotShownUptoRow, standIns := [], harness := (true, "62dae835c1519e99da914ba63e0ae22a09fe7e86963eb32e6a26cc9c2e41ce8e"), looks := true }, kinds := [], alts := [], laidByText := true, laidKinds := [.data, .data, .data, .data, .sentinel, .sentinel, .data, .pinned], laidTests := true, laidLooks := .later }
def WhynotShownUptoCardSaid : Prop := Claim7.holds Tryz.pinned (.plain (OpenSpec.upto whynotShownSpec)) whynotShownUptoCard

/-- THE SECOND FORM's CARD OF 'ciceronelaw41.WhynotSpoilt'. -/
def whynotSpoiltUptoCard : Claim7 := { stood := { row := whynotSpoiltUptoRow, standIns := [], harness := (true, "62dae835c1519e99da914ba63e0ae22a09fe7e86963eb32e6a26cc9c2e41ce8e"), looks := true }, kinds := [], alts := [], laidByText := true, laidKinds := [.data, .data, .data, .data, .sentinel, .sentinel, .data, .pinned], laidTests := true, laidLooks := .later }
def WhynotSpoiltUptoCardSaid : Prop := Claim7.holds Tryz.pinned (.plain (OpenSpec.upto whynotSpoiltSpec)) whynotSpoiltUptoCard

/-- THE SECOND FORM's CARD OF 'ciceronelaw41.WhynotTexts'. -/
def whynotTextsUptoCard : Claim7 := { stood := { row := whynotTextsUptoRow, standIns := [], harness := (true, "62dae835c1519e99da914ba63e0ae22a09fe7e86963eb32e6a26cc9c2e41ce8e"), looks := true }, kinds := [], alts := [], laidByText := true, laidKinds := [.data, .data, .data, .data, .sentinel, .sentinel, .data, .data, .pinned], laidTests := true, laidLooks := .later }
def WhynotTextsUptoCardSaid : Prop := Claim7.holds Tryz.pinned (.plain (OpenSpec.upto whynotTextsSpec)) whynotTextsUptoCard
end Rows
end Go.Proofs.YthdmpcnnbminlaaGreatDoor
