/-
  DERIVED. GIVEN WITH THE SEED: THE CARDS: each row of YtnkglbiakjnfjaaDoorRows.lean that lists a variable, with what it lists TIED to the program's text (the seventh form; the later family's looks); each row that meets fmt, with fmt's text TOLD by the authors' own Lean function (tested against real Go, not proved from fmt's source: count such statements apart). THE CARD IS WHAT COUNTS. Prove the row's statement (the work); the ties are given (YtnkglbiakjnfjaaDoorTie.lean); close each card by the builder's one call (the guide's Derived/Test/ToyasCard.lean, 'card_holds'). Laid BY PROGRAM, IN A SANDBOX (cutbox-door.mjs). By AI agents, Wed Nov 11 2026. No macro, syntax, notation, axiom, sorry.
-/
import Derived.Test.YtnkglbiakjnfjaaDoorRows
import GoSem.ClaimSeven
namespace Go.Proofs.YtnkglbiakjnfjaaDoor
namespace Rows

/-- THE TIED CARD OF 'ciceronelaw16.CrowdTastes'. -/
def crowdTastesCard : Claim7 := { stood := { row := crowdTastesRow, standIns := [], harness := (true, "3a6a5dfb28ba20e998affadc2d1548240fd2c2711968e9927c31cc58467153de"), looks := false }, kinds := [], alts := [], laidByText := true, laidKinds := [.data, .pinned], laidTests := true, laidLooks := .later }
def CrowdTastesCardSaid : Prop := Claim7.holds Tryd.pinned (.plain (OpenSpec.ofChange crowdTastesSpec)) crowdTastesCard

/-- THE TIED CARD OF 'ciceronelaw16.CrowdFades'. -/
def crowdFadesCard : Claim7 := { stood := { row := crowdFadesRow, standIns := [], harness := (true, "3a6a5dfb28ba20e998affadc2d1548240fd2c2711968e9927c31cc58467153de"), looks := false }, kinds := [], alts := [], laidByText := true, laidKinds := [.data, .pinned], laidTests := true, laidLooks := .later }
def CrowdFadesCardSaid : Prop := Claim7.holds Tryd.pinned (.plain (OpenSpec.ofChange crowdFadesSpec)) crowdFadesCard

/-- THE TIED CARD OF 'ciceronelaw16.CrowdSums'. -/
def crowdSumsCard : Claim7 := { stood := { row := crowdSumsRow, standIns := [], harness := (true, "3a6a5dfb28ba20e998affadc2d1548240fd2c2711968e9927c31cc58467153de"), looks := false }, kinds := [], alts := [], laidByText := true, laidKinds := [.data, .pinned], laidTests := true, laidLooks := .later }
def CrowdSumsCardSaid : Prop := Claim7.holds Tryd.pinned (.plain (OpenSpec.ofChange crowdSumsSpec)) crowdSumsCard

/-- THE TIED CARD OF 'ciceronelaw16.CrowdTags'. -/
def crowdTagsCard : Claim7 := { stood := { row := crowdTagsRow, standIns := [], harness := (true, "3a6a5dfb28ba20e998affadc2d1548240fd2c2711968e9927c31cc58467153de"), looks := false }, kinds := [], alts := [], laidByText := true, laidKinds := [.data, .pinned], laidTests := true, laidLooks := .later }
def CrowdTagsCardSaid : Prop := Claim7.holds Tryd.pinned (.plain (OpenSpec.ofChange crowdTagsSpec)) crowdTagsCard

/-- THE TIED CARD OF 'ciceronelaw16.CrowdTells'. -/
def crowdTellsCard : Claim7 := { stood := { row := crowdTellsRow, standIns := [], harness := (true, "3a6a5dfb28ba20e998affadc2d1548240fd2c2711968e9927c31cc58467153de"), looks := false }, kinds := [], alts := [], laidByText := true, laidKinds := [.data, .pinned], laidTests := true, laidLooks := .later }
def CrowdTellsCardSaid : Prop := Claim7.holds Tryd.pinned (.plain (OpenSpec.ofChange crowdTellsSpec)) crowdTellsCard

/-- THE TIED CARD OF 'ciceronelaw16.CrowdApplies'. -/
def crowdAppliesCard : Claim7 := { stood := { row := crowdAppliesRow, standIns := [], harness := (true, "3a6a5dfb28ba20e998affadc2d1548240fd2c2711968e9927c31cc58467153de"), looks := false }, kinds := [], alts := [], laidByText := true, laidKinds := [.data, .pinned], laidTests := true, laidLooks := .later }
def CrowdAppliesCardSaid : Prop := Claim7.holds Tryd.pinned (.plain (OpenSpec.ofChange crowdAppliesSpec)) crowdAppliesCard

/-- THE TIED CARD OF 'ciceronelaw16.CrowdMakers'. -/
def crowdMakersCard : Claim7 := { stood := { row := crowdMakersRow, standIns := [], harness := (true, "3a6a5dfb28ba20e998affadc2d1548240fd2c2711968e9927c31cc58467153de"), looks := false }, kinds := [], alts := [], laidByText := true, laidKinds := [.data, .pinned], laidTests := true, laidLooks := .later }
def CrowdMakersCardSaid : Prop := Claim7.holds Tryd.pinned (.plain (OpenSpec.ofChange crowdMakersSpec)) crowdMakersCard

/-- THE TIED CARD OF 'ciceronelaw16.CrowdApart'. -/
def crowdApartCard : Claim7 := { stood := { row := crowdApartRow, standIns := [], harness := (true, "3a6a5dfb28ba20e998affadc2d1548240fd2c2711968e9927c31cc58467153de"), looks := false }, kinds := [], alts := [], laidByText := true, laidKinds := [.data, .pinned], laidTests := true, laidLooks := .later }
def CrowdApartCardSaid : Prop := Claim7.holds Tryd.pinned (.plain (OpenSpec.ofChange crowdApartSpec)) crowdApartCard

/-- THE SECOND FORM's CARD OF 'ciceronelaw16.CrowdTastes'. -/
def crowdTastesUptoCard : Claim7 := { stood := { row := crowdTastesUptoRow, standIns := [], harness := (true, "3a6a5dfb28ba20e998affadc2d1548240fd2c2711968e9927c31cc58467153de"), looks := false }, kinds := [], alts := [], laidByText := true, laidKinds := [.data, .pinned], laidTests := true, laidLooks := .later }
def CrowdTastesUptoCardSaid : Prop := Claim7.holds Tryd.pinned (.plain (OpenSpec.upto crowdTastesSpec)) crowdTastesUptoCard

/-- THE SECOND FORM's CARD OF 'ciceronelaw16.CrowdFades'. -/
def crowdFadesUptoCard : Claim7 := { stood := { row := crowdFadesUptoRow, standIns := [], harness := (true, "3a6a5dfb28ba20e998affadc2d1548240fd2c2711968e9927c31cc58467153de"), looks := false }, kinds := [], alts := [], laidByText := true, laidKinds := [.data, .pinned], laidTests := true, laidLooks := .later }
def CrowdFadesUptoCardSaid : Prop := Claim7.holds Tryd.pinned (.plain (OpenSpec.upto crowdFadesSpec)) crowdFadesUptoCard

/-- THE SECOND FORM's CARD OF 'ciceronelaw16.CrowdSums'. -/
def crowdSumsUptoCard : Claim7 := { stood := { row := crowdSumsUptoRow, standIns := [], harness := (true, "3a6a5dfb28ba20e998affadc2d1548240fd2c2711968e9927c31cc58467153de"), looks := false }, kinds := [], alts := [], laidByText := true, laidKinds := [.data, .pinned], laidTests := true, laidLooks := .later }
def CrowdSumsUptoCardSaid : Prop := Claim7.holds Tryd.pinned (.plain (OpenSpec.upto crowdSumsSpec)) crowdSumsUptoCard

/-- THE SECOND FORM's CARD OF 'ciceronelaw16.CrowdTags'. -/
def crowdTagsUptoCard : Claim7 := { stood := { row := crowdTagsUptoRow, standIns := [], harness := (true, "3a6a5dfb28ba20e998affadc2d1548240fd2c2711968e9927c31cc58467153de"), looks := false }, kinds := [], alts := [], laidByText := true, laidKinds := [.data, .pinned], laidTests := true, laidLooks := .later }
def CrowdTagsUptoCardSaid : Prop := Claim7.holds Tryd.pinned (.plain (OpenSpec.upto crowdTagsSpec)) crowdTagsUptoCard

/-- THE SECOND FORM's CARD OF 'ciceronelaw16.CrowdTells'. -/
def crowdTellsUptoCard : Claim7 := { stood := { row := crowdTellsUptoRow, standIns := [], harness := (true, "3a6a5dfb28ba20e998affadc2d1548240fd2c2711968e9927c31cc58467153de"), looks := false }, kinds := [], alts := [], laidByText := true, laidKinds := [.data, .pinned], laidTests := true, laidLooks := .later }
def CrowdTellsUptoCardSaid : Prop := Claim7.holds Tryd.pinned (.plain (OpenSpec.upto crowdTellsSpec)) crowdTellsUptoCard

/-- THE SECOND FORM's CARD OF 'ciceronelaw16.CrowdApplies'. -/
def crowdAppliesUptoCard : Claim7 := { stood := { row := crowdAppliesUptoRow, standIns := [], harness := (true, "3a6a5dfb28ba20e998affadc2d1548240fd2c2711968e9927c31cc58467153de"), looks := false }, kinds := [], alts := [], laidByText := true, laidKinds := [.data, .pinned], laidTests := true, laidLooks := .later }
def CrowdAppliesUptoCardSaid : Prop := Claim7.holds Tryd.pinned (.plain (OpenSpec.upto crowdAppliesSpec)) crowdAppliesUptoCard

/-- THE SECOND FORM's CARD OF 'ciceronelaw16.CrowdMakers'. -/
def crowdMakersUptoCard : Claim7 := { stood := { row := crowdMakersUptoRow, standIns := [], harness := (true, "3a6a5dfb28ba20e998affadc2d1548240fd2c2711968e9927c31cc58467153de"), looks := false }, kinds := [], alts := [], laidByText := true, laidKinds := [.data, .pinned], laidTests := true, laidLooks := .later }
def CrowdMakersUptoCardSaid : Prop := Claim7.holds Tryd.pinned (.plain (OpenSpec.upto crowdMakersSpec)) crowdMakersUptoCard

/-- THE SECOND FORM's CARD OF 'ciceronelaw16.CrowdApart'. -/
def crowdApartUptoCard : Claim7 := { stood := { row := crowdApartUptoRow, standIns := [], harness := (true, "3a6a5dfb28ba20e998affadc2d1548240fd2c2711968e9927c31cc58467153de"), looks := false }, kinds := [], alts := [], laidByText := true, laidKinds := [.data, .pinned], laidTests := true, laidLooks := .later }
def CrowdApartUptoCardSaid : Prop := Claim7.holds Tryd.pinned (.plain (OpenSpec.upto crowdApartSpec)) crowdApartUptoCard
end Rows
end Go.Proofs.YtnkglbiakjnfjaaDoor
