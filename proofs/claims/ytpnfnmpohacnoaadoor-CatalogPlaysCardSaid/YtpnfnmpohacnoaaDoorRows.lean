/-
  NARROWER THAN 'FOR EVERY INPUT', by the rows' own cells (each row's printed sentence says how): CatalogStays: laid · CatalogAhead: laid · CatalogFinds: laid · CatalogRefuses: laid · CatalogKeyed: laid · CatalogPlays: laid.
  DERIVED. THE GIVEN ROWS OF THIS SEAT. 6 by the template 'for every input the law returns true; each argument reads behind the call as it read before'; 0 by the template 'total and deterministic' (their statements: YtpnfnmpohacnoaaDoorTotals.lean).
  GIVEN WITH THE SEED: the statements are not yours to turn. If you find one false, say at which input.
  Laid BY PROGRAM, IN A SANDBOX (cutbox-rows.mjs): the forced cells as the released guide's own fill.sh prints them over the translation ffe8cdf4530fc54b… (all of the seat's roots in one cut). By AI agents, Wed Nov 11 2026. No macro, syntax, notation, axiom, sorry.
-/
import Derived.Test.YtpnfnmpohacnoaaDoorChecked
import GoSem.PinnedTables
import GoSem.Claim
import GoSem.ClaimJoined
import GoSem.ClaimMapViews
import Derived.JoinedTies
import Derived.KernelRfl
namespace Go.Proofs.YtpnfnmpohacnoaaDoor
/- THE CELL 'sum', in the pinned program and in every row, IS THE sha256 OF THE DUMP (.gsa) THAT YtpnfnmpohacnoaaDoorProg.lean LOADS. Nothing in Lean hashes anything: it is a label: what it is worth is what the hold of that sum in a sandbox is worth. -/
noncomputable def Tryd.pinned : Pinned := { name := "ytpnfnmpohacnoaadoor", sum := "ffe8cdf4530fc54b7d9ba72ecf22ed5dfd7e8f63d77ba3e0930cfedff3b1fc96", checked := Tryd.checked }
namespace Rows
def none {H : Type} : Left H := { results := [], args := [] }

/- WHAT THE LISTED PACKAGE-LEVEL VARIABLES READ AS WHEN THE CALL BEGINS. Each datum BY PROGRAM (the guide's laid-datum.mjs) off the statement by which the dump's own 'gosem.cut.vars' lays the variable. In a bare row this is a premise. The card (YtpnfnmpohacnoaaDoorCards.lean) ties it to the program's text. -/
def laid_unicode_utf8_acceptRanges {H : Type} : DataW H := .agg [.agg [.lit (.int .u8 128), .lit (.int .u8 191)], .agg [.lit (.int .u8 160), .lit (.int .u8 191)], .agg [.lit (.int .u8 128), .lit (.int .u8 159)], .agg [.lit (.int .u8 144), .lit (.int .u8 191)], .agg [.lit (.int .u8 128), .lit (.int .u8 143)], .agg [.lit (.int .u8 0), .lit (.int .u8 0)], .agg [.lit (.int .u8 0), .lit (.int .u8 0)], .agg [.lit (.int .u8 0), .lit (.int .u8 0)], .agg [.lit (.int .u8 0), .lit (.int .u8 0)], .agg [.lit (.int .u8 0), .lit (.int .u8 0)], .agg [.lit (.int .u8 0), .lit (.int .u8 0)], .agg [.lit (.int .u8 0), .lit (.int .u8 0)], .agg [.lit (.int .u8 0), .lit (.int .u8 0)], .agg [.lit (.int .u8 0), .lit (.int .u8 0)], .agg [.lit (.int .u8 0), .lit (.int .u8 0)], .agg [.lit (.int .u8 0), .lit (.int .u8 0)]]
/-- One of Go's own tables, pinned by name: the form's constant. -/
def laid_unicode_utf8_first : DataW Unit := Go.Pinned.utf8First

/-- 'ciceronelaw15.CatalogStays': WHATEVER THE INPUT: true; the input reads as it did. -/
def catalogStaysSpec : ChangeSpec := { name := "catalogStays", fn := fun _ => fun
  | [d1, d2, d3, d4] => { results := [.lit (.bool true)], args := [d1, d2, d3, d4] }
  | _ => none }
def catalogStaysRow : OpenClaim := { program := "ytpnfnmpohacnoaadoor", sum := "ffe8cdf4530fc54b7d9ba72ecf22ed5dfd7e8f63d77ba3e0930cfedff3b1fc96", func := "cicerone/ciceronelaw15.CatalogStays", spec := "catalogStays", inPlace := ["internal/bytealg.IndexByteString", "internal/bytealg.IndexString", "internal/bytealg.CountString", "internal/bytealg.abigen_runtime_cmpstring"], unfollowed := true, recurses := true, named := ["internal/bytealg.MaxLen", "unicode/utf8.first", "unicode/utf8.acceptRanges"], apart := false, laid := [("unicode/utf8.acceptRanges", laid_unicode_utf8_acceptRanges), ("unicode/utf8.first", laid_unicode_utf8_first)] }
def CatalogStaysSaid : Prop := catalogStaysRow.holds Tryd.pinned (OpenSpec.ofChange catalogStaysSpec)

/-- ITS FALSE NEIGHBOUR: 'it returns false'. Refute it at one input. -/
def catalogStaysWrong : ChangeSpec := { name := "catalogStays", fn := fun _ => fun
  | [d1, d2, d3, d4] => { results := [.lit (.bool false)], args := [d1, d2, d3, d4] }
  | _ => none }
def CatalogStaysWrongFalsely : Prop := catalogStaysRow.holds Tryd.pinned (OpenSpec.ofChange catalogStaysWrong)

/-- 'ciceronelaw15.CatalogAhead': WHATEVER THE INPUT: true; the input reads as it did. -/
def catalogAheadSpec : ChangeSpec := { name := "catalogAhead", fn := fun _ => fun
  | [d1, d2, d3, d4] => { results := [.lit (.bool true)], args := [d1, d2, d3, d4] }
  | _ => none }
def catalogAheadRow : OpenClaim := { program := "ytpnfnmpohacnoaadoor", sum := "ffe8cdf4530fc54b7d9ba72ecf22ed5dfd7e8f63d77ba3e0930cfedff3b1fc96", func := "cicerone/ciceronelaw15.CatalogAhead", spec := "catalogAhead", inPlace := ["internal/bytealg.IndexByteString", "internal/bytealg.IndexString", "internal/bytealg.CountString", "internal/bytealg.abigen_runtime_cmpstring"], unfollowed := true, recurses := true, named := ["internal/bytealg.MaxLen", "unicode/utf8.first", "unicode/utf8.acceptRanges"], apart := false, laid := [("unicode/utf8.acceptRanges", laid_unicode_utf8_acceptRanges), ("unicode/utf8.first", laid_unicode_utf8_first)] }
def CatalogAheadSaid : Prop := catalogAheadRow.holds Tryd.pinned (OpenSpec.ofChange catalogAheadSpec)

/-- ITS FALSE NEIGHBOUR: 'it returns false'. Refute it at one input. -/
def catalogAheadWrong : ChangeSpec := { name := "catalogAhead", fn := fun _ => fun
  | [d1, d2, d3, d4] => { results := [.lit (.bool false)], args := [d1, d2, d3, d4] }
  | _ => none }
def CatalogAheadWrongFalsely : Prop := catalogAheadRow.holds Tryd.pinned (OpenSpec.ofChange catalogAheadWrong)

/-- 'ciceronelaw15.CatalogFinds': WHATEVER THE INPUT: true; the input reads as it did. -/
def catalogFindsSpec : ChangeSpec := { name := "catalogFinds", fn := fun _ => fun
  | [d1, d2, d3] => { results := [.lit (.bool true)], args := [d1, d2, d3] }
  | _ => none }
def catalogFindsRow : OpenClaim := { program := "ytpnfnmpohacnoaadoor", sum := "ffe8cdf4530fc54b7d9ba72ecf22ed5dfd7e8f63d77ba3e0930cfedff3b1fc96", func := "cicerone/ciceronelaw15.CatalogFinds", spec := "catalogFinds", inPlace := ["internal/bytealg.IndexByteString", "internal/bytealg.IndexString", "internal/bytealg.CountString", "internal/bytealg.abigen_runtime_cmpstring"], unfollowed := true, recurses := true, named := ["internal/bytealg.MaxLen", "unicode/utf8.first", "unicode/utf8.acceptRanges"], apart := false, laid := [("unicode/utf8.acceptRanges", laid_unicode_utf8_acceptRanges), ("unicode/utf8.first", laid_unicode_utf8_first)] }
def CatalogFindsSaid : Prop := catalogFindsRow.holds Tryd.pinned (OpenSpec.ofChange catalogFindsSpec)

/-- ITS FALSE NEIGHBOUR: 'it returns false'. Refute it at one input. -/
def catalogFindsWrong : ChangeSpec := { name := "catalogFinds", fn := fun _ => fun
  | [d1, d2, d3] => { results := [.lit (.bool false)], args := [d1, d2, d3] }
  | _ => none }
def CatalogFindsWrongFalsely : Prop := catalogFindsRow.holds Tryd.pinned (OpenSpec.ofChange catalogFindsWrong)

/-- 'ciceronelaw15.CatalogRefuses': WHATEVER THE INPUT: true; the input reads as it did. -/
def catalogRefusesSpec : ChangeSpec := { name := "catalogRefuses", fn := fun _ => fun
  | [d1, d2, d3] => { results := [.lit (.bool true)], args := [d1, d2, d3] }
  | _ => none }
def catalogRefusesRow : OpenClaim := { program := "ytpnfnmpohacnoaadoor", sum := "ffe8cdf4530fc54b7d9ba72ecf22ed5dfd7e8f63d77ba3e0930cfedff3b1fc96", func := "cicerone/ciceronelaw15.CatalogRefuses", spec := "catalogRefuses", inPlace := ["internal/bytealg.IndexByteString", "internal/bytealg.IndexString", "internal/bytealg.CountString", "internal/bytealg.abigen_runtime_cmpstring"], unfollowed := true, recurses := true, named := ["internal/bytealg.MaxLen", "unicode/utf8.first", "unicode/utf8.acceptRanges"], apart := false, laid := [("unicode/utf8.acceptRanges", laid_unicode_utf8_acceptRanges), ("unicode/utf8.first", laid_unicode_utf8_first)] }
def CatalogRefusesSaid : Prop := catalogRefusesRow.holds Tryd.pinned (OpenSpec.ofChange catalogRefusesSpec)

/-- ITS FALSE NEIGHBOUR: 'it returns false'. Refute it at one input. -/
def catalogRefusesWrong : ChangeSpec := { name := "catalogRefuses", fn := fun _ => fun
  | [d1, d2, d3] => { results := [.lit (.bool false)], args := [d1, d2, d3] }
  | _ => none }
def CatalogRefusesWrongFalsely : Prop := catalogRefusesRow.holds Tryd.pinned (OpenSpec.ofChange catalogRefusesWrong)

/-- 'ciceronelaw15.CatalogKeyed': WHATEVER THE INPUT: true; the input reads as it did. -/
def catalogKeyedSpec : ChangeSpec := { name := "catalogKeyed", fn := fun _ => fun
  | [d1, d2, d3] => { results := [.lit (.bool true)], args := [d1, d2, d3] }
  | _ => none }
def catalogKeyedRow : OpenClaim := { program := "ytpnfnmpohacnoaadoor", sum := "ffe8cdf4530fc54b7d9ba72ecf22ed5dfd7e8f63d77ba3e0930cfedff3b1fc96", func := "cicerone/ciceronelaw15.CatalogKeyed", spec := "catalogKeyed", inPlace := ["internal/bytealg.IndexByteString", "internal/bytealg.IndexString", "internal/bytealg.CountString", "internal/bytealg.abigen_runtime_cmpstring"], unfollowed := true, recurses := true, named := ["internal/bytealg.MaxLen", "unicode/utf8.first", "unicode/utf8.acceptRanges"], apart := false, laid := [("unicode/utf8.acceptRanges", laid_unicode_utf8_acceptRanges), ("unicode/utf8.first", laid_unicode_utf8_first)] }
def CatalogKeyedSaid : Prop := catalogKeyedRow.holds Tryd.pinned (OpenSpec.ofChange catalogKeyedSpec)

/-- ITS FALSE NEIGHBOUR: 'it returns false'. Refute it at one input. -/
def catalogKeyedWrong : ChangeSpec := { name := "catalogKeyed", fn := fun _ => fun
  | [d1, d2, d3] => { results := [.lit (.bool false)], args := [d1, d2, d3] }
  | _ => none }
def CatalogKeyedWrongFalsely : Prop := catalogKeyedRow.holds Tryd.pinned (OpenSpec.ofChange catalogKeyedWrong)

/-- 'ciceronelaw15.CatalogPlays': WHATEVER THE INPUT: true; the input reads as it did. -/
def catalogPlaysSpec : ChangeSpec := { name := "catalogPlays", fn := fun _ => fun
  | [d1, d2, d3] => { results := [.lit (.bool true)], args := [d1, d2, d3] }
  | _ => none }
def catalogPlaysRow : OpenClaim := { program := "ytpnfnmpohacnoaadoor", sum := "ffe8cdf4530fc54b7d9ba72ecf22ed5dfd7e8f63d77ba3e0930cfedff3b1fc96", func := "cicerone/ciceronelaw15.CatalogPlays", spec := "catalogPlays", inPlace := ["internal/bytealg.IndexByteString", "internal/bytealg.IndexString", "internal/bytealg.CountString", "internal/bytealg.abigen_runtime_cmpstring"], unfollowed := true, recurses := true, named := ["internal/bytealg.MaxLen", "unicode/utf8.first", "unicode/utf8.acceptRanges"], apart := false, laid := [("unicode/utf8.acceptRanges", laid_unicode_utf8_acceptRanges), ("unicode/utf8.first", laid_unicode_utf8_first)] }
def CatalogPlaysSaid : Prop := catalogPlaysRow.holds Tryd.pinned (OpenSpec.ofChange catalogPlaysSpec)

/-- ITS FALSE NEIGHBOUR: 'it returns false'. Refute it at one input. -/
def catalogPlaysWrong : ChangeSpec := { name := "catalogPlays", fn := fun _ => fun
  | [d1, d2, d3] => { results := [.lit (.bool false)], args := [d1, d2, d3] }
  | _ => none }
def CatalogPlaysWrongFalsely : Prop := catalogPlaysRow.holds Tryd.pinned (OpenSpec.ofChange catalogPlaysWrong)

/- THE SECOND FORM. 'bulk': how many values and letters a reading holds, each counted each time it is reached (what is shared counts as often as it is met; a slice's spare places count too). A statement '..UptoSaid' is the law's where the arguments, and the package variables that the reading takes, are together of bulk at most 1048576: NARROWER than '..Said'. Prove '..Said' where nothing that the law and all that it calls make is longer than what came in: it says more and counts as full. Else prove '..UptoSaid'. A law counts once. -/
mutual
def uptoBulk {H : Type} : DataW H → Nat
  | .lit (.string bytes) => bytes.length + 1
  | .lit _ => 1
  | .nil => 1
  | .ptr d => uptoBulk d + 1
  | .slice elems spare => uptoBulkAll elems + uptoBulkAll spare + 1
  | .agg parts => uptoBulkAll parts + 1
  | .iface _ d => uptoBulk d + 1
  | .map entries => uptoBulkEntries entries + 1
  | .held _ => 1
def uptoBulkAll {H : Type} : List (DataW H) → Nat
  | [] => 0
  | d :: r => uptoBulk d + uptoBulkAll r
def uptoBulkEntries {H : Type} : List (Lit × DataW H) → Nat
  | [] => 0
  | x :: r => uptoBulkEntry x + uptoBulkEntries r
def uptoBulkEntry {H : Type} : Lit × DataW H → Nat
  | (.string bytes, d) => bytes.length + uptoBulk d + 1
  | (_, d) => uptoBulk d + 1
 end
def uptoSmall : (H : Type) → List (DataW H) → Bool := fun _ ds => decide (uptoBulkAll ds ≤ 1048576)
def OpenSpec.upto (s : _root_.Go.ChangeSpec) : _root_.Go.OpenSpec := { _root_.Go.OpenSpec.ofChange s with cond := some uptoSmall }

/-- 'ciceronelaw15.CatalogStays', WHERE WHAT IT READS IS OF BULK AT MOST 1048576: true; the input reads as it did. -/
def catalogStaysUptoRow : OpenClaim := { program := "ytpnfnmpohacnoaadoor", sum := "ffe8cdf4530fc54b7d9ba72ecf22ed5dfd7e8f63d77ba3e0930cfedff3b1fc96", func := "cicerone/ciceronelaw15.CatalogStays", spec := "catalogStays", inPlace := ["internal/bytealg.IndexByteString", "internal/bytealg.IndexString", "internal/bytealg.CountString", "internal/bytealg.abigen_runtime_cmpstring"], unfollowed := true, recurses := true, named := ["internal/bytealg.MaxLen", "unicode/utf8.first", "unicode/utf8.acceptRanges"], apart := false, laid := [("unicode/utf8.acceptRanges", laid_unicode_utf8_acceptRanges), ("unicode/utf8.first", laid_unicode_utf8_first)], narrowed := true }
def CatalogStaysUptoSaid : Prop := catalogStaysUptoRow.holds Tryd.pinned (OpenSpec.upto catalogStaysSpec)

/-- 'ciceronelaw15.CatalogAhead', WHERE WHAT IT READS IS OF BULK AT MOST 1048576: true; the input reads as it did. -/
def catalogAheadUptoRow : OpenClaim := { program := "ytpnfnmpohacnoaadoor", sum := "ffe8cdf4530fc54b7d9ba72ecf22ed5dfd7e8f63d77ba3e0930cfedff3b1fc96", func := "cicerone/ciceronelaw15.CatalogAhead", spec := "catalogAhead", inPlace := ["internal/bytealg.IndexByteString", "internal/bytealg.IndexString", "internal/bytealg.CountString", "internal/bytealg.abigen_runtime_cmpstring"], unfollowed := true, recurses := true, named := ["internal/bytealg.MaxLen", "unicode/utf8.first", "unicode/utf8.acceptRanges"], apart := false, laid := [("unicode/utf8.acceptRanges", laid_unicode_utf8_acceptRanges), ("unicode/utf8.first", laid_unicode_utf8_first)], narrowed := true }
def CatalogAheadUptoSaid : Prop := catalogAheadUptoRow.holds Tryd.pinned (OpenSpec.upto catalogAheadSpec)

/-- 'ciceronelaw15.CatalogFinds', WHERE WHAT IT READS IS OF BULK AT MOST 1048576: true; the input reads as it did. -/
def catalogFindsUptoRow : OpenClaim := { program := "ytpnfnmpohacnoaadoor", sum := "ffe8cdf4530fc54b7d9ba72ecf22ed5dfd7e8f63d77ba3e0930cfedff3b1fc96", func := "cicerone/ciceronelaw15.CatalogFinds", spec := "catalogFinds", inPlace := ["internal/bytealg.IndexByteString", "internal/bytealg.IndexString", "internal/bytealg.CountString", "internal/bytealg.abigen_runtime_cmpstring"], unfollowed := true, recurses := true, named := ["internal/bytealg.MaxLen", "unicode/utf8.first", "unicode/utf8.acceptRanges"], apart := false, laid := [("unicode/utf8.acceptRanges", laid_unicode_utf8_acceptRanges), ("unicode/utf8.first", laid_unicode_utf8_first)], narrowed := true }
def CatalogFindsUptoSaid : Prop := catalogFindsUptoRow.holds Tryd.pinned (OpenSpec.upto catalogFindsSpec)

/-- 'ciceronelaw15.CatalogRefuses', WHERE WHAT IT READS IS OF BULK AT MOST 1048576: true; the input reads as it did. -/
def catalogRefusesUptoRow : OpenClaim := { program := "ytpnfnmpohacnoaadoor", sum := "ffe8cdf4530fc54b7d9ba72ecf22ed5dfd7e8f63d77ba3e0930cfedff3b1fc96", func := "cicerone/ciceronelaw15.CatalogRefuses", spec := "catalogRefuses", inPlace := ["internal/bytealg.IndexByteString", "internal/bytealg.IndexString", "internal/bytealg.CountString", "internal/bytealg.abigen_runtime_cmpstring"], unfollowed := true, recurses := true, named := ["internal/bytealg.MaxLen", "unicode/utf8.first", "unicode/utf8.acceptRanges"], apart := false, laid := [("unicode/utf8.acceptRanges", laid_unicode_utf8_acceptRanges), ("unicode/utf8.first", laid_unicode_utf8_first)], narrowed := true }
def CatalogRefusesUptoSaid : Prop := catalogRefusesUptoRow.holds Tryd.pinned (OpenSpec.upto catalogRefusesSpec)

/-- 'ciceronelaw15.CatalogKeyed', WHERE WHAT IT READS IS OF BULK AT MOST 1048576: true; the input reads as it did. -/
def catalogKeyedUptoRow : OpenClaim := { program := "ytpnfnmpohacnoaadoor", sum := "ffe8cdf4530fc54b7d9ba72ecf22ed5dfd7e8f63d77ba3e0930cfedff3b1fc96", func := "cicerone/ciceronelaw15.CatalogKeyed", spec := "catalogKeyed", inPlace := ["internal/bytealg.IndexByteString", "internal/bytealg.IndexString", "internal/bytealg.CountString", "internal/bytealg.abigen_runtime_cmpstring"], unfollowed := true, recurses := true, named := ["internal/bytealg.MaxLen", "unicode/utf8.first", "unicode/utf8.acceptRanges"], apart := false, laid := [("unicode/utf8.acceptRanges", laid_unicode_utf8_acceptRanges), ("unicode/utf8.first", laid_unicode_utf8_first)], narrowed := true }
def CatalogKeyedUptoSaid : Prop := catalogKeyedUptoRow.holds Tryd.pinned (OpenSpec.upto catalogKeyedSpec)

/-- 'ciceronelaw15.CatalogPlays', WHERE WHAT IT READS IS OF BULK AT MOST 1048576: true; the input reads as it did. -/
def catalogPlaysUptoRow : OpenClaim := { program := "ytpnfnmpohacnoaadoor", sum := "ffe8cdf4530fc54b7d9ba72ecf22ed5dfd7e8f63d77ba3e0930cfedff3b1fc96", func := "cicerone/ciceronelaw15.CatalogPlays", spec := "catalogPlays", inPlace := ["internal/bytealg.IndexByteString", "internal/bytealg.IndexString", "internal/bytealg.CountString", "internal/bytealg.abigen_runtime_cmpstring"], unfollowed := true, recurses := true, named := ["internal/bytealg.MaxLen", "unicode/utf8.first", "unicode/utf8.acceptRanges"], apart := false, laid := [("unicode/utf8.acceptRanges", laid_unicode_utf8_acceptRanges), ("unicode/utf8.first", laid_unicode_utf8_first)], narrowed := true }
def CatalogPlaysUptoSaid : Prop := catalogPlaysUptoRow.holds Tryd.pinned (OpenSpec.upto catalogPlaysSpec)

end Rows
end Go.Proofs.YtpnfnmpohacnoaaDoor
