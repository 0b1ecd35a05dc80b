/-
  DERIVED. GIVEN WITH THE SEED: THE CARDS: each row of YtpgbgeofhcpocaaDoorRows.lean that lists a variable, with what it lists TIED to the program's text (the seventh form; the later family's looks); each row that meets fmt, with fmt's text TOLD by the authors' own Lean function (tested against real Go, not proved from fmt's source: count such statements apart). THE CARD IS WHAT COUNTS. Prove the row's statement (the work); the ties are given (YtpgbgeofhcpocaaDoorTie.lean); close each card by the builder's one call (the guide's Derived/Test/ToyasCard.lean, 'card_holds'). Laid BY PROGRAM, IN A SANDBOX (cutbox-door.mjs). By AI agents, Wed Nov 11 2026. No macro, syntax, notation, axiom, sorry.
-/
import Derived.Test.YtpgbgeofhcpocaaDoorRows
import GoSem.ClaimSeven
namespace Go.Proofs.YtpgbgeofhcpocaaDoor
namespace Rows

/-- THE TIED CARD OF 'ciceronelaw22.RuleParses'. -/
def ruleParsesCard : Claim7 := { stood := { row := ruleParsesRow, standIns := [], harness := (true, "7f6df2f92b1071b3c3820c1912fea2cd386ca0c2d50bd0cd8538122fdb0cbb25"), looks := true }, kinds := [], alts := [], laidByText := true, laidKinds := [.data, .data, .data, .sentinel, .sentinel], laidTests := true, laidLooks := .later }
def RuleParsesCardSaid : Prop := Claim7.holds Tryd.pinned (.plain (OpenSpec.ofChange ruleParsesSpec)) ruleParsesCard

/-- THE TIED CARD OF 'ciceronelaw22.RuleDeep'. -/
def ruleDeepCard : Claim7 := { stood := { row := ruleDeepRow, standIns := [], harness := (true, "7f6df2f92b1071b3c3820c1912fea2cd386ca0c2d50bd0cd8538122fdb0cbb25"), looks := true }, kinds := [], alts := [], laidByText := true, laidKinds := [.data, .data, .data, .sentinel, .sentinel], laidTests := true, laidLooks := .later }
def RuleDeepCardSaid : Prop := Claim7.holds Tryd.pinned (.plain (OpenSpec.ofChange ruleDeepSpec)) ruleDeepCard

/-- THE TIED CARD OF 'ciceronelaw22.RuleBlanks'. -/
def ruleBlanksCard : Claim7 := { stood := { row := ruleBlanksRow, standIns := [], harness := (true, "7f6df2f92b1071b3c3820c1912fea2cd386ca0c2d50bd0cd8538122fdb0cbb25"), looks := true }, kinds := [], alts := [], laidByText := true, laidKinds := [.data, .data, .data, .sentinel, .sentinel], laidTests := true, laidLooks := .later }
def RuleBlanksCardSaid : Prop := Claim7.holds Tryd.pinned (.plain (OpenSpec.ofChange ruleBlanksSpec)) ruleBlanksCard

/-- THE TIED CARD OF 'ciceronelaw22.RuleOwn'. -/
def ruleOwnCard : Claim7 := { stood := { row := ruleOwnRow, standIns := [], harness := (true, "7f6df2f92b1071b3c3820c1912fea2cd386ca0c2d50bd0cd8538122fdb0cbb25"), looks := true }, kinds := [], alts := [], laidByText := true, laidKinds := [.data, .data, .data, .sentinel, .sentinel], laidTests := true, laidLooks := .later }
def RuleOwnCardSaid : Prop := Claim7.holds Tryd.pinned (.plain (OpenSpec.ofChange ruleOwnSpec)) ruleOwnCard

/-- THE TIED CARD OF 'ciceronelaw22.RuleAtoms'. -/
def ruleAtomsCard : Claim7 := { stood := { row := ruleAtomsRow, standIns := [], harness := (true, "7f6df2f92b1071b3c3820c1912fea2cd386ca0c2d50bd0cd8538122fdb0cbb25"), looks := true }, kinds := [], alts := [], laidByText := true, laidKinds := [.data, .data, .data, .sentinel, .sentinel], laidTests := true, laidLooks := .later }
def RuleAtomsCardSaid : Prop := Claim7.holds Tryd.pinned (.plain (OpenSpec.ofChange ruleAtomsSpec)) ruleAtomsCard

/-- THE SECOND FORM's CARD OF 'ciceronelaw22.RuleParses'. -/
def ruleParsesUptoCard : Claim7 := { stood := { row := ruleParsesUptoRow, standIns := [], harness := (true, "7f6df2f92b1071b3c3820c1912fea2cd386ca0c2d50bd0cd8538122fdb0cbb25"), looks := true }, kinds := [], alts := [], laidByText := true, laidKinds := [.data, .data, .data, .sentinel, .sentinel], laidTests := true, laidLooks := .later }
def RuleParsesUptoCardSaid : Prop := Claim7.holds Tryd.pinned (.plain (OpenSpec.upto ruleParsesSpec)) ruleParsesUptoCard

/-- THE SECOND FORM's CARD OF 'ciceronelaw22.RuleDeep'. -/
def ruleDeepUptoCard : Claim7 := { stood := { row := ruleDeepUptoRow, standIns := [], harness := (true, "7f6df2f92b1071b3c3820c1912fea2cd386ca0c2d50bd0cd8538122fdb0cbb25"), looks := true }, kinds := [], alts := [], laidByText := true, laidKinds := [.data, .data, .data, .sentinel, .sentinel], laidTests := true, laidLooks := .later }
def RuleDeepUptoCardSaid : Prop := Claim7.holds Tryd.pinned (.plain (OpenSpec.upto ruleDeepSpec)) ruleDeepUptoCard

/-- THE SECOND FORM's CARD OF 'ciceronelaw22.RuleBlanks'. -/
def ruleBlanksUptoCard : Claim7 := { stood := { row := ruleBlanksUptoRow, standIns := [], harness := (true, "7f6df2f92b1071b3c3820c1912fea2cd386ca0c2d50bd0cd8538122fdb0cbb25"), looks := true }, kinds := [], alts := [], laidByText := true, laidKinds := [.data, .data, .data, .sentinel, .sentinel], laidTests := true, laidLooks := .later }
def RuleBlanksUptoCardSaid : Prop := Claim7.holds Tryd.pinned (.plain (OpenSpec.upto ruleBlanksSpec)) ruleBlanksUptoCard

/-- THE SECOND FORM's CARD OF 'ciceronelaw22.RuleOwn'. -/
def ruleOwnUptoCard : Claim7 := { stood := { row := ruleOwnUptoRow, standIns := [], harness := (true, "7f6df2f92b1071b3c3820c1912fea2cd386ca0c2d50bd0cd8538122fdb0cbb25"), looks := true }, kinds := [], alts := [], laidByText := true, laidKinds := [.data, .data, .data, .sentinel, .sentinel], laidTests := true, laidLooks := .later }
def RuleOwnUptoCardSaid : Prop := Claim7.holds Tryd.pinned (.plain (OpenSpec.upto ruleOwnSpec)) ruleOwnUptoCard

/-- THE SECOND FORM's CARD OF 'ciceronelaw22.RuleAtoms'. -/
def ruleAtomsUptoCard : Claim7 := { stood := { row := ruleAtomsUptoRow, standIns := [], harness := (true, "7f6df2f92b1071b3c3820c1912fea2cd386ca0c2d50bd0cd8538122fdb0cbb25"), looks := true }, kinds := [], alts := [], laidByText := true, laidKinds := [.data, .data, .data, .sentinel, .sentinel], laidTests := true, laidLooks := .later }
def RuleAtomsUptoCardSaid : Prop := Claim7.holds Tryd.pinned (.plain (OpenSpec.upto ruleAtomsSpec)) ruleAtomsUptoCard
end Rows
end Go.Proofs.YtpgbgeofhcpocaaDoor
