/-
  NARROWER THAN 'FOR EVERY INPUT', by the rows' own cells (each row's printed sentence says how): SlateRanks: laid · SlateCaps: laid · SlateLeft: laid · SlateOrders: laid · SlateFree: laid · SlateFalls: laid · SlateMakes: laid · SlateRights: laid.
  DERIVED. THE GIVEN ROWS OF THIS SEAT. 8 by the template 'for every input the law returns true; each argument reads behind the call as it read before'; 0 by the template 'total and deterministic' (their statements: YtiaklkfdgnhonaaDoorTotals.lean).
  GIVEN WITH THE SEED: the statements are not yours to turn. If you find one false, say at which input.
  Laid BY PROGRAM, IN A SANDBOX (cutbox-rows.mjs): the forced cells as the released guide's own fill.sh prints them over the translation 43453be54df23b37… (all of the seat's roots in one cut). By AI agents, Wed Nov 11 2026. No macro, syntax, notation, axiom, sorry.
-/
import Derived.Test.YtiaklkfdgnhonaaDoorChecked
import GoSem.PinnedTables
import GoSem.Claim
import GoSem.ClaimJoined
import GoSem.ClaimMapViews
import Derived.JoinedTies
import Derived.KernelRfl
namespace Go.Proofs.YtiaklkfdgnhonaaDoor
/- THE CELL 'sum', in the pinned program and in every row, IS THE sha256 OF THE DUMP (.gsa) THAT YtiaklkfdgnhonaaDoorProg.lean LOADS. Nothing in Lean hashes anything: it is a label: what it is worth is what the hold of that sum in a sandbox is worth. -/
noncomputable def Tryd.pinned : Pinned := { name := "ytiaklkfdgnhonaadoor", sum := "43453be54df23b372060e81a9925b3eba0723c7e2c42ac531bbc9cf76677ecfd", checked := Tryd.checked }
namespace Rows
def none {H : Type} : Left H := { results := [], args := [] }

/- WHAT THE LISTED PACKAGE-LEVEL VARIABLES READ AS WHEN THE CALL BEGINS. Each datum BY PROGRAM (the guide's laid-datum.mjs) off the statement by which the dump's own 'gosem.cut.vars' lays the variable. In a bare row this is a premise. The card (YtiaklkfdgnhonaaDoorCards.lean) ties it to the program's text. -/
def laid_unicode_utf8_acceptRanges {H : Type} : DataW H := .agg [.agg [.lit (.int .u8 128), .lit (.int .u8 191)], .agg [.lit (.int .u8 160), .lit (.int .u8 191)], .agg [.lit (.int .u8 128), .lit (.int .u8 159)], .agg [.lit (.int .u8 144), .lit (.int .u8 191)], .agg [.lit (.int .u8 128), .lit (.int .u8 143)], .agg [.lit (.int .u8 0), .lit (.int .u8 0)], .agg [.lit (.int .u8 0), .lit (.int .u8 0)], .agg [.lit (.int .u8 0), .lit (.int .u8 0)], .agg [.lit (.int .u8 0), .lit (.int .u8 0)], .agg [.lit (.int .u8 0), .lit (.int .u8 0)], .agg [.lit (.int .u8 0), .lit (.int .u8 0)], .agg [.lit (.int .u8 0), .lit (.int .u8 0)], .agg [.lit (.int .u8 0), .lit (.int .u8 0)], .agg [.lit (.int .u8 0), .lit (.int .u8 0)], .agg [.lit (.int .u8 0), .lit (.int .u8 0)], .agg [.lit (.int .u8 0), .lit (.int .u8 0)]]
/-- One of Go's own tables, pinned by name: the form's constant. -/
def laid_unicode_utf8_first : DataW Unit := Go.Pinned.utf8First

/-- 'ciceronelaw25.SlateRanks': WHATEVER THE INPUT: true; the input reads as it did. -/
def slateRanksSpec : ChangeSpec := { name := "slateRanks", fn := fun _ => fun
  | [d] => { results := [.lit (.bool true)], args := [d] }
  | _ => none }
def slateRanksRow : OpenClaim := { program := "ytiaklkfdgnhonaadoor", sum := "43453be54df23b372060e81a9925b3eba0723c7e2c42ac531bbc9cf76677ecfd", func := "cicerone/ciceronelaw25.SlateRanks", spec := "slateRanks", inPlace := ["internal/bytealg.CountString", "internal/bytealg.IndexByteString", "internal/bytealg.IndexString"], unfollowed := true, recurses := true, named := ["unicode/utf8.first", "unicode/utf8.acceptRanges", "internal/bytealg.MaxLen"], plainKeys := false, apart := false, laid := [("unicode/utf8.acceptRanges", laid_unicode_utf8_acceptRanges), ("unicode/utf8.first", laid_unicode_utf8_first)] }
def SlateRanksSaid : Prop := slateRanksRow.holds Tryd.pinned (OpenSpec.ofChange slateRanksSpec)

/-- ITS FALSE NEIGHBOUR: 'it returns false'. Refute it at one input. -/
def slateRanksWrong : ChangeSpec := { name := "slateRanks", fn := fun _ => fun
  | [d] => { results := [.lit (.bool false)], args := [d] }
  | _ => none }
def SlateRanksWrongFalsely : Prop := slateRanksRow.holds Tryd.pinned (OpenSpec.ofChange slateRanksWrong)

/-- 'ciceronelaw25.SlateCaps': WHATEVER THE INPUT: true; the input reads as it did. -/
def slateCapsSpec : ChangeSpec := { name := "slateCaps", fn := fun _ => fun
  | [d1, d2] => { results := [.lit (.bool true)], args := [d1, d2] }
  | _ => none }
def slateCapsRow : OpenClaim := { program := "ytiaklkfdgnhonaadoor", sum := "43453be54df23b372060e81a9925b3eba0723c7e2c42ac531bbc9cf76677ecfd", func := "cicerone/ciceronelaw25.SlateCaps", spec := "slateCaps", inPlace := ["internal/bytealg.CountString", "internal/bytealg.IndexByteString", "internal/bytealg.IndexString"], unfollowed := true, recurses := true, named := ["unicode/utf8.first", "unicode/utf8.acceptRanges", "internal/bytealg.MaxLen"], plainKeys := false, apart := false, laid := [("unicode/utf8.acceptRanges", laid_unicode_utf8_acceptRanges), ("unicode/utf8.first", laid_unicode_utf8_first)] }
def SlateCapsSaid : Prop := slateCapsRow.holds Tryd.pinned (OpenSpec.ofChange slateCapsSpec)

/-- ITS FALSE NEIGHBOUR: 'it returns false'. Refute it at one input. -/
def slateCapsWrong : ChangeSpec := { name := "slateCaps", fn := fun _ => fun
  | [d1, d2] => { results := [.lit (.bool false)], args := [d1, d2] }
  | _ => none }
def SlateCapsWrongFalsely : Prop := slateCapsRow.holds Tryd.pinned (OpenSpec.ofChange slateCapsWrong)

/-- 'ciceronelaw25.SlateLeft': WHATEVER THE INPUT: true; the input reads as it did. -/
def slateLeftSpec : ChangeSpec := { name := "slateLeft", fn := fun _ => fun
  | [d1, d2] => { results := [.lit (.bool true)], args := [d1, d2] }
  | _ => none }
def slateLeftRow : OpenClaim := { program := "ytiaklkfdgnhonaadoor", sum := "43453be54df23b372060e81a9925b3eba0723c7e2c42ac531bbc9cf76677ecfd", func := "cicerone/ciceronelaw25.SlateLeft", spec := "slateLeft", inPlace := ["internal/bytealg.CountString", "internal/bytealg.IndexByteString", "internal/bytealg.IndexString"], unfollowed := true, recurses := true, named := ["unicode/utf8.first", "unicode/utf8.acceptRanges", "internal/bytealg.MaxLen"], plainKeys := false, apart := false, laid := [("unicode/utf8.acceptRanges", laid_unicode_utf8_acceptRanges), ("unicode/utf8.first", laid_unicode_utf8_first)] }
def SlateLeftSaid : Prop := slateLeftRow.holds Tryd.pinned (OpenSpec.ofChange slateLeftSpec)

/-- ITS FALSE NEIGHBOUR: 'it returns false'. Refute it at one input. -/
def slateLeftWrong : ChangeSpec := { name := "slateLeft", fn := fun _ => fun
  | [d1, d2] => { results := [.lit (.bool false)], args := [d1, d2] }
  | _ => none }
def SlateLeftWrongFalsely : Prop := slateLeftRow.holds Tryd.pinned (OpenSpec.ofChange slateLeftWrong)

/-- 'ciceronelaw25.SlateOrders': WHATEVER THE INPUT: true; the input reads as it did. -/
def slateOrdersSpec : ChangeSpec := { name := "slateOrders", fn := fun _ => fun
  | [d1, d2, d3] => { results := [.lit (.bool true)], args := [d1, d2, d3] }
  | _ => none }
def slateOrdersRow : OpenClaim := { program := "ytiaklkfdgnhonaadoor", sum := "43453be54df23b372060e81a9925b3eba0723c7e2c42ac531bbc9cf76677ecfd", func := "cicerone/ciceronelaw25.SlateOrders", spec := "slateOrders", inPlace := ["internal/bytealg.CountString", "internal/bytealg.IndexByteString", "internal/bytealg.IndexString"], unfollowed := true, recurses := true, named := ["unicode/utf8.first", "unicode/utf8.acceptRanges", "internal/bytealg.MaxLen"], plainKeys := false, apart := false, laid := [("unicode/utf8.acceptRanges", laid_unicode_utf8_acceptRanges), ("unicode/utf8.first", laid_unicode_utf8_first)] }
def SlateOrdersSaid : Prop := slateOrdersRow.holds Tryd.pinned (OpenSpec.ofChange slateOrdersSpec)

/-- ITS FALSE NEIGHBOUR: 'it returns false'. Refute it at one input. -/
def slateOrdersWrong : ChangeSpec := { name := "slateOrders", fn := fun _ => fun
  | [d1, d2, d3] => { results := [.lit (.bool false)], args := [d1, d2, d3] }
  | _ => none }
def SlateOrdersWrongFalsely : Prop := slateOrdersRow.holds Tryd.pinned (OpenSpec.ofChange slateOrdersWrong)

/-- 'ciceronelaw25.SlateFree': WHATEVER THE INPUT: true; the input reads as it did. -/
def slateFreeSpec : ChangeSpec := { name := "slateFree", fn := fun _ => fun
  | [d1, d2, d3] => { results := [.lit (.bool true)], args := [d1, d2, d3] }
  | _ => none }
def slateFreeRow : OpenClaim := { program := "ytiaklkfdgnhonaadoor", sum := "43453be54df23b372060e81a9925b3eba0723c7e2c42ac531bbc9cf76677ecfd", func := "cicerone/ciceronelaw25.SlateFree", spec := "slateFree", inPlace := ["internal/bytealg.CountString", "internal/bytealg.IndexByteString", "internal/bytealg.IndexString"], unfollowed := true, recurses := true, named := ["unicode/utf8.first", "unicode/utf8.acceptRanges", "internal/bytealg.MaxLen"], plainKeys := false, apart := false, laid := [("unicode/utf8.acceptRanges", laid_unicode_utf8_acceptRanges), ("unicode/utf8.first", laid_unicode_utf8_first)] }
def SlateFreeSaid : Prop := slateFreeRow.holds Tryd.pinned (OpenSpec.ofChange slateFreeSpec)

/-- ITS FALSE NEIGHBOUR: 'it returns false'. Refute it at one input. -/
def slateFreeWrong : ChangeSpec := { name := "slateFree", fn := fun _ => fun
  | [d1, d2, d3] => { results := [.lit (.bool false)], args := [d1, d2, d3] }
  | _ => none }
def SlateFreeWrongFalsely : Prop := slateFreeRow.holds Tryd.pinned (OpenSpec.ofChange slateFreeWrong)

/-- 'ciceronelaw25.SlateFalls': WHATEVER THE INPUT: true; the input reads as it did. -/
def slateFallsSpec : ChangeSpec := { name := "slateFalls", fn := fun _ => fun
  | [d1, d2] => { results := [.lit (.bool true)], args := [d1, d2] }
  | _ => none }
def slateFallsRow : OpenClaim := { program := "ytiaklkfdgnhonaadoor", sum := "43453be54df23b372060e81a9925b3eba0723c7e2c42ac531bbc9cf76677ecfd", func := "cicerone/ciceronelaw25.SlateFalls", spec := "slateFalls", inPlace := ["internal/bytealg.CountString", "internal/bytealg.IndexByteString", "internal/bytealg.IndexString"], unfollowed := true, recurses := true, named := ["unicode/utf8.first", "unicode/utf8.acceptRanges", "internal/bytealg.MaxLen"], plainKeys := false, apart := false, laid := [("unicode/utf8.acceptRanges", laid_unicode_utf8_acceptRanges), ("unicode/utf8.first", laid_unicode_utf8_first)] }
def SlateFallsSaid : Prop := slateFallsRow.holds Tryd.pinned (OpenSpec.ofChange slateFallsSpec)

/-- ITS FALSE NEIGHBOUR: 'it returns false'. Refute it at one input. -/
def slateFallsWrong : ChangeSpec := { name := "slateFalls", fn := fun _ => fun
  | [d1, d2] => { results := [.lit (.bool false)], args := [d1, d2] }
  | _ => none }
def SlateFallsWrongFalsely : Prop := slateFallsRow.holds Tryd.pinned (OpenSpec.ofChange slateFallsWrong)

/-- 'ciceronelaw25.SlateMakes': WHATEVER THE INPUT: true; the input reads as it did. -/
def slateMakesSpec : ChangeSpec := { name := "slateMakes", fn := fun _ => fun
  | [d1, d2] => { results := [.lit (.bool true)], args := [d1, d2] }
  | _ => none }
def slateMakesRow : OpenClaim := { program := "ytiaklkfdgnhonaadoor", sum := "43453be54df23b372060e81a9925b3eba0723c7e2c42ac531bbc9cf76677ecfd", func := "cicerone/ciceronelaw25.SlateMakes", spec := "slateMakes", inPlace := ["internal/bytealg.CountString", "internal/bytealg.IndexByteString", "internal/bytealg.IndexString"], unfollowed := true, recurses := true, named := ["unicode/utf8.first", "unicode/utf8.acceptRanges", "internal/bytealg.MaxLen"], plainKeys := false, apart := false, laid := [("unicode/utf8.acceptRanges", laid_unicode_utf8_acceptRanges), ("unicode/utf8.first", laid_unicode_utf8_first)] }
def SlateMakesSaid : Prop := slateMakesRow.holds Tryd.pinned (OpenSpec.ofChange slateMakesSpec)

/-- ITS FALSE NEIGHBOUR: 'it returns false'. Refute it at one input. -/
def slateMakesWrong : ChangeSpec := { name := "slateMakes", fn := fun _ => fun
  | [d1, d2] => { results := [.lit (.bool false)], args := [d1, d2] }
  | _ => none }
def SlateMakesWrongFalsely : Prop := slateMakesRow.holds Tryd.pinned (OpenSpec.ofChange slateMakesWrong)

/-- 'ciceronelaw25.SlateRights': WHATEVER THE INPUT: true; the input reads as it did. -/
def slateRightsSpec : ChangeSpec := { name := "slateRights", fn := fun _ => fun
  | [d1, d2, d3] => { results := [.lit (.bool true)], args := [d1, d2, d3] }
  | _ => none }
def slateRightsRow : OpenClaim := { program := "ytiaklkfdgnhonaadoor", sum := "43453be54df23b372060e81a9925b3eba0723c7e2c42ac531bbc9cf76677ecfd", func := "cicerone/ciceronelaw25.SlateRights", spec := "slateRights", inPlace := ["internal/bytealg.CountString", "internal/bytealg.IndexByteString", "internal/bytealg.IndexString"], unfollowed := true, recurses := true, named := ["unicode/utf8.first", "unicode/utf8.acceptRanges", "internal/bytealg.MaxLen"], plainKeys := false, apart := false, laid := [("unicode/utf8.acceptRanges", laid_unicode_utf8_acceptRanges), ("unicode/utf8.first", laid_unicode_utf8_first)] }
def SlateRightsSaid : Prop := slateRightsRow.holds Tryd.pinned (OpenSpec.ofChange slateRightsSpec)

/-- ITS FALSE NEIGHBOUR: 'it returns false'. Refute it at one input. -/
def slateRightsWrong : ChangeSpec := { name := "slateRights", fn := fun _ => fun
  | [d1, d2, d3] => { results := [.lit (.bool false)], args := [d1, d2, d3] }
  | _ => none }
def SlateRightsWrongFalsely : Prop := slateRightsRow.holds Tryd.pinned (OpenSpec.ofChange slateRightsWrong)

/- THE SECOND FORM. 'bulk': how many values and letters a reading holds, each counted each time it is reached (what is shared counts as often as it is met; a slice's spare places count too). A statement '..UptoSaid' is the law's where the arguments, and the package variables that the reading takes, are together of bulk at most 1048576: NARROWER than '..Said'. Prove '..Said' where nothing that the law and all that it calls make is longer than what came in: it says more and counts as full. Else prove '..UptoSaid'. A law counts once. -/
mutual
def uptoBulk {H : Type} : DataW H → Nat
  | .lit (.string bytes) => bytes.length + 1
  | .lit _ => 1
  | .nil => 1
  | .ptr d => uptoBulk d + 1
  | .slice elems spare => uptoBulkAll elems + uptoBulkAll spare + 1
  | .agg parts => uptoBulkAll parts + 1
  | .iface _ d => uptoBulk d + 1
  | .map entries => uptoBulkEntries entries + 1
  | .held _ => 1
def uptoBulkAll {H : Type} : List (DataW H) → Nat
  | [] => 0
  | d :: r => uptoBulk d + uptoBulkAll r
def uptoBulkEntries {H : Type} : List (Lit × DataW H) → Nat
  | [] => 0
  | x :: r => uptoBulkEntry x + uptoBulkEntries r
def uptoBulkEntry {H : Type} : Lit × DataW H → Nat
  | (.string bytes, d) => bytes.length + uptoBulk d + 1
  | (_, d) => uptoBulk d + 1
 end
def uptoSmall : (H : Type) → List (DataW H) → Bool := fun _ ds => decide (uptoBulkAll ds ≤ 1048576)
def OpenSpec.upto (s : _root_.Go.ChangeSpec) : _root_.Go.OpenSpec := { _root_.Go.OpenSpec.ofChange s with cond := some uptoSmall }

/-- 'ciceronelaw25.SlateRanks', WHERE WHAT IT READS IS OF BULK AT MOST 1048576: true; the input reads as it did. -/
def slateRanksUptoRow : OpenClaim := { program := "ytiaklkfdgnhonaadoor", sum := "43453be54df23b372060e81a9925b3eba0723c7e2c42ac531bbc9cf76677ecfd", func := "cicerone/ciceronelaw25.SlateRanks", spec := "slateRanks", inPlace := ["internal/bytealg.CountString", "internal/bytealg.IndexByteString", "internal/bytealg.IndexString"], unfollowed := true, recurses := true, named := ["unicode/utf8.first", "unicode/utf8.acceptRanges", "internal/bytealg.MaxLen"], plainKeys := false, apart := false, laid := [("unicode/utf8.acceptRanges", laid_unicode_utf8_acceptRanges), ("unicode/utf8.first", laid_unicode_utf8_first)], narrowed := true }
def SlateRanksUptoSaid : Prop := slateRanksUptoRow.holds Tryd.pinned (OpenSpec.upto slateRanksSpec)

/-- 'ciceronelaw25.SlateCaps', WHERE WHAT IT READS IS OF BULK AT MOST 1048576: true; the input reads as it did. -/
def slateCapsUptoRow : OpenClaim := { program := "ytiaklkfdgnhonaadoor", sum := "43453be54df23b372060e81a9925b3eba0723c7e2c42ac531bbc9cf76677ecfd", func := "cicerone/ciceronelaw25.SlateCaps", spec := "slateCaps", inPlace := ["internal/bytealg.CountString", "internal/bytealg.IndexByteString", "internal/bytealg.IndexString"], unfollowed := true, recurses := true, named := ["unicode/utf8.first", "unicode/utf8.acceptRanges", "internal/bytealg.MaxLen"], plainKeys := false, apart := false, laid := [("unicode/utf8.acceptRanges", laid_unicode_utf8_acceptRanges), ("unicode/utf8.first", laid_unicode_utf8_first)], narrowed := true }
def SlateCapsUptoSaid : Prop := slateCapsUptoRow.holds Tryd.pinned (OpenSpec.upto slateCapsSpec)

/-- 'ciceronelaw25.SlateLeft', WHERE WHAT IT READS IS OF BULK AT MOST 1048576: true; the input reads as it did. -/
def slateLeftUptoRow : OpenClaim := { program := "ytiaklkfdgnhonaadoor", sum := "43453be54df23b372060e81a9925b3eba0723c7e2c42ac531bbc9cf76677ecfd", func := "cicerone/ciceronelaw25.SlateLeft", spec := "slateLeft", inPlace := ["internal/bytealg.CountString", "internal/bytealg.IndexByteString", "internal/bytealg.IndexString"], unfollowed := true, recurses := true, named := ["unicode/utf8.first", "unicode/utf8.acceptRanges", "internal/bytealg.MaxLen"], plainKeys := false, apart := false, laid := [("unicode/utf8.acceptRanges", laid_unicode_utf8_acceptRanges), ("unicode/utf8.first", laid_unicode_utf8_first)], narrowed := true }
def SlateLeftUptoSaid : Prop := slateLeftUptoRow.holds Tryd.pinned (OpenSpec.upto slateLeftSpec)

/-- 'ciceronelaw25.SlateOrders', WHERE WHAT IT READS IS OF BULK AT MOST 1048576: true; the input reads as it did. -/
def slateOrdersUptoRow : OpenClaim := { program := "ytiaklkfdgnhonaadoor", sum := "43453be54df23b372060e81a9925b3eba0723c7e2c42ac531bbc9cf76677ecfd", func := "cicerone/ciceronelaw25.SlateOrders", spec := "slateOrders", inPlace := ["internal/bytealg.CountString", "internal/bytealg.IndexByteString", "internal/bytealg.IndexString"], unfollowed := true, recurses := true, named := ["unicode/utf8.first", "unicode/utf8.acceptRanges", "internal/bytealg.MaxLen"], plainKeys := false, apart := false, laid := [("unicode/utf8.acceptRanges", laid_unicode_utf8_acceptRanges), ("unicode/utf8.first", laid_unicode_utf8_first)], narrowed := true }
def SlateOrdersUptoSaid : Prop := slateOrdersUptoRow.holds Tryd.pinned (OpenSpec.upto slateOrdersSpec)

/-- 'ciceronelaw25.SlateFree', WHERE WHAT IT READS IS OF BULK AT MOST 1048576: true; the input reads as it did. -/
def slateFreeUptoRow : OpenClaim := { program := "ytiaklkfdgnhonaadoor", sum := "43453be54df23b372060e81a9925b3eba0723c7e2c42ac531bbc9cf76677ecfd", func := "cicerone/ciceronelaw25.SlateFree", spec := "slateFree", inPlace := ["internal/bytealg.CountString", "internal/bytealg.IndexByteString", "internal/bytealg.IndexString"], unfollowed := true, recurses := true, named := ["unicode/utf8.first", "unicode/utf8.acceptRanges", "internal/bytealg.MaxLen"], plainKeys := false, apart := false, laid := [("unicode/utf8.acceptRanges", laid_unicode_utf8_acceptRanges), ("unicode/utf8.first", laid_unicode_utf8_first)], narrowed := true }
def SlateFreeUptoSaid : Prop := slateFreeUptoRow.holds Tryd.pinned (OpenSpec.upto slateFreeSpec)

/-- 'ciceronelaw25.SlateFalls', WHERE WHAT IT READS IS OF BULK AT MOST 1048576: true; the input reads as it did. -/
def slateFallsUptoRow : OpenClaim := { program := "ytiaklkfdgnhonaadoor", sum := "43453be54df23b372060e81a9925b3eba0723c7e2c42ac531bbc9cf76677ecfd", func := "cicerone/ciceronelaw25.SlateFalls", spec := "slateFalls", inPlace := ["internal/bytealg.CountString", "internal/bytealg.IndexByteString", "internal/bytealg.IndexString"], unfollowed := true, recurses := true, named := ["unicode/utf8.first", "unicode/utf8.acceptRanges", "internal/bytealg.MaxLen"], plainKeys := false, apart := false, laid := [("unicode/utf8.acceptRanges", laid_unicode_utf8_acceptRanges), ("unicode/utf8.first", laid_unicode_utf8_first)], narrowed := true }
def SlateFallsUptoSaid : Prop := slateFallsUptoRow.holds Tryd.pinned (OpenSpec.upto slateFallsSpec)

/-- 'ciceronelaw25.SlateMakes', WHERE WHAT IT READS IS OF BULK AT MOST 1048576: true; the input reads as it did. -/
def slateMakesUptoRow : OpenClaim := { program := "ytiaklkfdgnhonaadoor", sum := "43453be54df23b372060e81a9925b3eba0723c7e2c42ac531bbc9cf76677ecfd", func := "cicerone/ciceronelaw25.SlateMakes", spec := "slateMakes", inPlace := ["internal/bytealg.CountString", "internal/bytealg.IndexByteString", "internal/bytealg.IndexString"], unfollowed := true, recurses := true, named := ["unicode/utf8.first", "unicode/utf8.acceptRanges", "internal/bytealg.MaxLen"], plainKeys := false, apart := false, laid := [("unicode/utf8.acceptRanges", laid_unicode_utf8_acceptRanges), ("unicode/utf8.first", laid_unicode_utf8_first)], narrowed := true }
def SlateMakesUptoSaid : Prop := slateMakesUptoRow.holds Tryd.pinned (OpenSpec.upto slateMakesSpec)

/-- 'ciceronelaw25.SlateRights', WHERE WHAT IT READS IS OF BULK AT MOST 1048576: true; the input reads as it did. -/
def slateRightsUptoRow : OpenClaim := { program := "ytiaklkfdgnhonaadoor", sum := "43453be54df23b372060e81a9925b3eba0723c7e2c42ac531bbc9cf76677ecfd", func := "cicerone/ciceronelaw25.SlateRights", spec := "slateRights", inPlace := ["internal/bytealg.CountString", "internal/bytealg.IndexByteString", "internal/bytealg.IndexString"], unfollowed := true, recurses := true, named := ["unicode/utf8.first", "unicode/utf8.acceptRanges", "internal/bytealg.MaxLen"], plainKeys := false, apart := false, laid := [("unicode/utf8.acceptRanges", laid_unicode_utf8_acceptRanges), ("unicode/utf8.first", laid_unicode_utf8_first)], narrowed := true }
def SlateRightsUptoSaid : Prop := slateRightsUptoRow.holds Tryd.pinned (OpenSpec.upto slateRightsSpec)

end Rows
end Go.Proofs.YtiaklkfdgnhonaaDoor
