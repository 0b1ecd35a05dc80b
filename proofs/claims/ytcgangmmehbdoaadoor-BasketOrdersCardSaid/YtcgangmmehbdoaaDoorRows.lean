/-
  NARROWER THAN 'FOR EVERY INPUT', by the rows' own cells (each row's printed sentence says how): BasketCounts: laid · BasketApart: laid · BasketBounds: laid · BasketPairs: laid · BasketOrders: laid.
  DERIVED. THE GIVEN ROWS OF THIS SEAT. 5 by the template 'for every input the law returns true; each argument reads behind the call as it read before'; 0 by the template 'total and deterministic' (their statements: YtcgangmmehbdoaaDoorTotals.lean).
  GIVEN WITH THE SEED: the statements are not yours to turn. If you find one false, say at which input.
  Laid BY PROGRAM, IN A SANDBOX (cutbox-rows.mjs): the forced cells as the released guide's own fill.sh prints them over the translation c05a630f8539cafb… (all of the seat's roots in one cut). By AI agents, Wed Nov 11 2026. No macro, syntax, notation, axiom, sorry.
-/
import Derived.Test.YtcgangmmehbdoaaDoorChecked
import GoSem.PinnedTables
import GoSem.Claim
import GoSem.ClaimJoined
import GoSem.ClaimMapViews
import Derived.JoinedTies
import Derived.KernelRfl
namespace Go.Proofs.YtcgangmmehbdoaaDoor
/- THE CELL 'sum', in the pinned program and in every row, IS THE sha256 OF THE DUMP (.gsa) THAT YtcgangmmehbdoaaDoorProg.lean LOADS. Nothing in Lean hashes anything: it is a label: what it is worth is what the hold of that sum in a sandbox is worth. -/
noncomputable def Tryd.pinned : Pinned := { name := "ytcgangmmehbdoaadoor", sum := "c05a630f8539cafbf394841f0ccf163c85a2a6955d79b9bfe1c95a42283c801e", checked := Tryd.checked }
namespace Rows
def none {H : Type} : Left H := { results := [], args := [] }

/- WHAT THE LISTED PACKAGE-LEVEL VARIABLES READ AS WHEN THE CALL BEGINS. Each datum BY PROGRAM (the guide's laid-datum.mjs) off the statement by which the dump's own 'gosem.cut.vars' lays the variable. In a bare row this is a premise. The card (YtcgangmmehbdoaaDoorCards.lean) ties it to the program's text. -/
def laid_unicode_utf8_acceptRanges {H : Type} : DataW H := .agg [.agg [.lit (.int .u8 128), .lit (.int .u8 191)], .agg [.lit (.int .u8 160), .lit (.int .u8 191)], .agg [.lit (.int .u8 128), .lit (.int .u8 159)], .agg [.lit (.int .u8 144), .lit (.int .u8 191)], .agg [.lit (.int .u8 128), .lit (.int .u8 143)], .agg [.lit (.int .u8 0), .lit (.int .u8 0)], .agg [.lit (.int .u8 0), .lit (.int .u8 0)], .agg [.lit (.int .u8 0), .lit (.int .u8 0)], .agg [.lit (.int .u8 0), .lit (.int .u8 0)], .agg [.lit (.int .u8 0), .lit (.int .u8 0)], .agg [.lit (.int .u8 0), .lit (.int .u8 0)], .agg [.lit (.int .u8 0), .lit (.int .u8 0)], .agg [.lit (.int .u8 0), .lit (.int .u8 0)], .agg [.lit (.int .u8 0), .lit (.int .u8 0)], .agg [.lit (.int .u8 0), .lit (.int .u8 0)], .agg [.lit (.int .u8 0), .lit (.int .u8 0)]]
/-- One of Go's own tables, pinned by name: the form's constant. -/
def laid_unicode_utf8_first : DataW Unit := Go.Pinned.utf8First

/-- 'ciceronelaw38.BasketCounts': WHATEVER THE INPUT: true; the input reads as it did. -/
def basketCountsSpec : ChangeSpec := { name := "basketCounts", fn := fun _ => fun
  | [d1, d2, d3, d4] => { results := [.lit (.bool true)], args := [d1, d2, d3, d4] }
  | _ => none }
def basketCountsRow : OpenClaim := { program := "ytcgangmmehbdoaadoor", sum := "c05a630f8539cafbf394841f0ccf163c85a2a6955d79b9bfe1c95a42283c801e", func := "cicerone/ciceronelaw38.BasketCounts", spec := "basketCounts", inPlace := ["internal/bytealg.IndexByteString", "internal/bytealg.IndexString", "internal/bytealg.CountString"], unfollowed := true, recurses := true, named := ["internal/bytealg.MaxLen", "unicode/utf8.first", "unicode/utf8.acceptRanges"], plainKeys := false, apart := false, laid := [("unicode/utf8.acceptRanges", laid_unicode_utf8_acceptRanges), ("unicode/utf8.first", laid_unicode_utf8_first)] }
def BasketCountsSaid : Prop := basketCountsRow.holds Tryd.pinned (OpenSpec.ofChange basketCountsSpec)

/-- ITS FALSE NEIGHBOUR: 'it returns false'. Refute it at one input. -/
def basketCountsWrong : ChangeSpec := { name := "basketCounts", fn := fun _ => fun
  | [d1, d2, d3, d4] => { results := [.lit (.bool false)], args := [d1, d2, d3, d4] }
  | _ => none }
def BasketCountsWrongFalsely : Prop := basketCountsRow.holds Tryd.pinned (OpenSpec.ofChange basketCountsWrong)

/-- 'ciceronelaw38.BasketApart': WHATEVER THE INPUT: true; the input reads as it did. -/
def basketApartSpec : ChangeSpec := { name := "basketApart", fn := fun _ => fun
  | [d1, d2, d3, d4, d5] => { results := [.lit (.bool true)], args := [d1, d2, d3, d4, d5] }
  | _ => none }
def basketApartRow : OpenClaim := { program := "ytcgangmmehbdoaadoor", sum := "c05a630f8539cafbf394841f0ccf163c85a2a6955d79b9bfe1c95a42283c801e", func := "cicerone/ciceronelaw38.BasketApart", spec := "basketApart", inPlace := ["internal/bytealg.IndexByteString", "internal/bytealg.IndexString", "internal/bytealg.CountString"], unfollowed := true, recurses := true, named := ["internal/bytealg.MaxLen", "unicode/utf8.first", "unicode/utf8.acceptRanges"], plainKeys := false, apart := false, laid := [("unicode/utf8.acceptRanges", laid_unicode_utf8_acceptRanges), ("unicode/utf8.first", laid_unicode_utf8_first)] }
def BasketApartSaid : Prop := basketApartRow.holds Tryd.pinned (OpenSpec.ofChange basketApartSpec)

/-- ITS FALSE NEIGHBOUR: 'it returns false'. Refute it at one input. -/
def basketApartWrong : ChangeSpec := { name := "basketApart", fn := fun _ => fun
  | [d1, d2, d3, d4, d5] => { results := [.lit (.bool false)], args := [d1, d2, d3, d4, d5] }
  | _ => none }
def BasketApartWrongFalsely : Prop := basketApartRow.holds Tryd.pinned (OpenSpec.ofChange basketApartWrong)

/-- 'ciceronelaw38.BasketBounds': WHATEVER THE INPUT: true; the input reads as it did. -/
def basketBoundsSpec : ChangeSpec := { name := "basketBounds", fn := fun _ => fun
  | [d1, d2, d3, d4, d5] => { results := [.lit (.bool true)], args := [d1, d2, d3, d4, d5] }
  | _ => none }
def basketBoundsRow : OpenClaim := { program := "ytcgangmmehbdoaadoor", sum := "c05a630f8539cafbf394841f0ccf163c85a2a6955d79b9bfe1c95a42283c801e", func := "cicerone/ciceronelaw38.BasketBounds", spec := "basketBounds", inPlace := ["internal/bytealg.IndexByteString", "internal/bytealg.IndexString", "internal/bytealg.CountString"], unfollowed := true, recurses := true, named := ["internal/bytealg.MaxLen", "unicode/utf8.first", "unicode/utf8.acceptRanges"], plainKeys := false, apart := false, laid := [("unicode/utf8.acceptRanges", laid_unicode_utf8_acceptRanges), ("unicode/utf8.first", laid_unicode_utf8_first)] }
def BasketBoundsSaid : Prop := basketBoundsRow.holds Tryd.pinned (OpenSpec.ofChange basketBoundsSpec)

/-- ITS FALSE NEIGHBOUR: 'it returns false'. Refute it at one input. -/
def basketBoundsWrong : ChangeSpec := { name := "basketBounds", fn := fun _ => fun
  | [d1, d2, d3, d4, d5] => { results := [.lit (.bool false)], args := [d1, d2, d3, d4, d5] }
  | _ => none }
def BasketBoundsWrongFalsely : Prop := basketBoundsRow.holds Tryd.pinned (OpenSpec.ofChange basketBoundsWrong)

/-- 'ciceronelaw38.BasketPairs': WHATEVER THE INPUT: true; the input reads as it did. -/
def basketPairsSpec : ChangeSpec := { name := "basketPairs", fn := fun _ => fun
  | [d1, d2, d3, d4] => { results := [.lit (.bool true)], args := [d1, d2, d3, d4] }
  | _ => none }
def basketPairsRow : OpenClaim := { program := "ytcgangmmehbdoaadoor", sum := "c05a630f8539cafbf394841f0ccf163c85a2a6955d79b9bfe1c95a42283c801e", func := "cicerone/ciceronelaw38.BasketPairs", spec := "basketPairs", inPlace := ["internal/bytealg.IndexByteString", "internal/bytealg.IndexString", "internal/bytealg.CountString"], unfollowed := true, recurses := true, named := ["internal/bytealg.MaxLen", "unicode/utf8.first", "unicode/utf8.acceptRanges"], plainKeys := false, apart := false, laid := [("unicode/utf8.acceptRanges", laid_unicode_utf8_acceptRanges), ("unicode/utf8.first", laid_unicode_utf8_first)] }
def BasketPairsSaid : Prop := basketPairsRow.holds Tryd.pinned (OpenSpec.ofChange basketPairsSpec)

/-- ITS FALSE NEIGHBOUR: 'it returns false'. Refute it at one input. -/
def basketPairsWrong : ChangeSpec := { name := "basketPairs", fn := fun _ => fun
  | [d1, d2, d3, d4] => { results := [.lit (.bool false)], args := [d1, d2, d3, d4] }
  | _ => none }
def BasketPairsWrongFalsely : Prop := basketPairsRow.holds Tryd.pinned (OpenSpec.ofChange basketPairsWrong)

/-- 'ciceronelaw38.BasketOrders': WHATEVER THE INPUT: true; the input reads as it did. -/
def basketOrdersSpec : ChangeSpec := { name := "basketOrders", fn := fun _ => fun
  | [d1, d2, d3, d4] => { results := [.lit (.bool true)], args := [d1, d2, d3, d4] }
  | _ => none }
def basketOrdersRow : OpenClaim := { program := "ytcgangmmehbdoaadoor", sum := "c05a630f8539cafbf394841f0ccf163c85a2a6955d79b9bfe1c95a42283c801e", func := "cicerone/ciceronelaw38.BasketOrders", spec := "basketOrders", inPlace := ["internal/bytealg.IndexByteString", "internal/bytealg.IndexString", "internal/bytealg.CountString"], unfollowed := true, recurses := true, named := ["internal/bytealg.MaxLen", "unicode/utf8.first", "unicode/utf8.acceptRanges"], plainKeys := false, apart := false, laid := [("unicode/utf8.acceptRanges", laid_unicode_utf8_acceptRanges), ("unicode/utf8.first", laid_unicode_utf8_first)] }
def BasketOrdersSaid : Prop := basketOrdersRow.holds Tryd.pinned (OpenSpec.ofChange basketOrdersSpec)

/-- ITS FALSE NEIGHBOUR: 'it returns false'. Refute it at one input. -/
def basketOrdersWrong : ChangeSpec := { name := "basketOrders", fn := fun _ => fun
  | [d1, d2, d3, d4] => { results := [.lit (.bool false)], args := [d1, d2, d3, d4] }
  | _ => none }
def BasketOrdersWrongFalsely : Prop := basketOrdersRow.holds Tryd.pinned (OpenSpec.ofChange basketOrdersWrong)

/- THE SECOND FORM. 'bulk': how many values and letters a reading holds, each counted each time it is reached (what is shared counts as often as it is met; a slice's spare places count too). A statement '..UptoSaid' is the law's where the arguments, and the package variables that the reading takes, are together of bulk at most 1048576: NARROWER than '..Said'. Prove '..Said' where nothing that the law and all that it calls make is longer than what came in: it says more and counts as full. Else prove '..UptoSaid'. A law counts once. -/
mutual
def uptoBulk {H : Type} : DataW H → Nat
  | .lit (.string bytes) => bytes.length + 1
  | .lit _ => 1
  | .nil => 1
  | .ptr d => uptoBulk d + 1
  | .slice elems spare => uptoBulkAll elems + uptoBulkAll spare + 1
  | .agg parts => uptoBulkAll parts + 1
  | .iface _ d => uptoBulk d + 1
  | .map entries => uptoBulkEntries entries + 1
  | .held _ => 1
def uptoBulkAll {H : Type} : List (DataW H) → Nat
  | [] => 0
  | d :: r => uptoBulk d + uptoBulkAll r
def uptoBulkEntries {H : Type} : List (Lit × DataW H) → Nat
  | [] => 0
  | x :: r => uptoBulkEntry x + uptoBulkEntries r
def uptoBulkEntry {H : Type} : Lit × DataW H → Nat
  | (.string bytes, d) => bytes.length + uptoBulk d + 1
  | (_, d) => uptoBulk d + 1
 end
def uptoSmall : (H : Type) → List (DataW H) → Bool := fun _ ds => decide (uptoBulkAll ds ≤ 1048576)
def OpenSpec.upto (s : _root_.Go.ChangeSpec) : _root_.Go.OpenSpec := { _root_.Go.OpenSpec.ofChange s with cond := some uptoSmall }

/-- 'ciceronelaw38.BasketCounts', WHERE WHAT IT READS IS OF BULK AT MOST 1048576: true; the input reads as it did. -/
def basketCountsUptoRow : OpenClaim := { program := "ytcgangmmehbdoaadoor", sum := "c05a630f8539cafbf394841f0ccf163c85a2a6955d79b9bfe1c95a42283c801e", func := "cicerone/ciceronelaw38.BasketCounts", spec := "basketCounts", inPlace := ["internal/bytealg.IndexByteString", "internal/bytealg.IndexString", "internal/bytealg.CountString"], unfollowed := true, recurses := true, named := ["internal/bytealg.MaxLen", "unicode/utf8.first", "unicode/utf8.acceptRanges"], plainKeys := false, apart := false, laid := [("unicode/utf8.acceptRanges", laid_unicode_utf8_acceptRanges), ("unicode/utf8.first", laid_unicode_utf8_first)], narrowed := true }
def BasketCountsUptoSaid : Prop := basketCountsUptoRow.holds Tryd.pinned (OpenSpec.upto basketCountsSpec)

/-- 'ciceronelaw38.BasketApart', WHERE WHAT IT READS IS OF BULK AT MOST 1048576: true; the input reads as it did. -/
def basketApartUptoRow : OpenClaim := { program := "ytcgangmmehbdoaadoor", sum := "c05a630f8539cafbf394841f0ccf163c85a2a6955d79b9bfe1c95a42283c801e", func := "cicerone/ciceronelaw38.BasketApart", spec := "basketApart", inPlace := ["internal/bytealg.IndexByteString", "internal/bytealg.IndexString", "internal/bytealg.CountString"], unfollowed := true, recurses := true, named := ["internal/bytealg.MaxLen", "unicode/utf8.first", "unicode/utf8.acceptRanges"], plainKeys := false, apart := false, laid := [("unicode/utf8.acceptRanges", laid_unicode_utf8_acceptRanges), ("unicode/utf8.first", laid_unicode_utf8_first)], narrowed := true }
def BasketApartUptoSaid : Prop := basketApartUptoRow.holds Tryd.pinned (OpenSpec.upto basketApartSpec)

/-- 'ciceronelaw38.BasketBounds', WHERE WHAT IT READS IS OF BULK AT MOST 1048576: true; the input reads as it did. -/
def basketBoundsUptoRow : OpenClaim := { program := "ytcgangmmehbdoaadoor", sum := "c05a630f8539cafbf394841f0ccf163c85a2a6955d79b9bfe1c95a42283c801e", func := "cicerone/ciceronelaw38.BasketBounds", spec := "basketBounds", inPlace := ["internal/bytealg.IndexByteString", "internal/bytealg.IndexString", "internal/bytealg.CountString"], unfollowed := true, recurses := true, named := ["internal/bytealg.MaxLen", "unicode/utf8.first", "unicode/utf8.acceptRanges"], plainKeys := false, apart := false, laid := [("unicode/utf8.acceptRanges", laid_unicode_utf8_acceptRanges), ("unicode/utf8.first", laid_unicode_utf8_first)], narrowed := true }
def BasketBoundsUptoSaid : Prop := basketBoundsUptoRow.holds Tryd.pinned (OpenSpec.upto basketBoundsSpec)

/-- 'ciceronelaw38.BasketPairs', WHERE WHAT IT READS IS OF BULK AT MOST 1048576: true; the input reads as it did. -/
def basketPairsUptoRow : OpenClaim := { program := "ytcgangmmehbdoaadoor", sum := "c05a630f8539cafbf394841f0ccf163c85a2a6955d79b9bfe1c95a42283c801e", func := "cicerone/ciceronelaw38.BasketPairs", spec := "basketPairs", inPlace := ["internal/bytealg.IndexByteString", "internal/bytealg.IndexString", "internal/bytealg.CountString"], unfollowed := true, recurses := true, named := ["internal/bytealg.MaxLen", "unicode/utf8.first", "unicode/utf8.acceptRanges"], plainKeys := false, apart := false, laid := [("unicode/utf8.acceptRanges", laid_unicode_utf8_acceptRanges), ("unicode/utf8.first", laid_unicode_utf8_first)], narrowed := true }
def BasketPairsUptoSaid : Prop := basketPairsUptoRow.holds Tryd.pinned (OpenSpec.upto basketPairsSpec)

/-- 'ciceronelaw38.BasketOrders', WHERE WHAT IT READS IS OF BULK AT MOST 1048576: true; the input reads as it did. -/
def basketOrdersUptoRow : OpenClaim := { program := "ytcgangmmehbdoaadoor", sum := "c05a630f8539cafbf394841f0ccf163c85a2a6955d79b9bfe1c95a42283c801e", func := "cicerone/ciceronelaw38.BasketOrders", spec := "basketOrders", inPlace := ["internal/bytealg.IndexByteString", "internal/bytealg.IndexString", "internal/bytealg.CountString"], unfollowed := true, recurses := true, named := ["internal/bytealg.MaxLen", "unicode/utf8.first", "unicode/utf8.acceptRanges"], plainKeys := false, apart := false, laid := [("unicode/utf8.acceptRanges", laid_unicode_utf8_acceptRanges), ("unicode/utf8.first", laid_unicode_utf8_first)], narrowed := true }
def BasketOrdersUptoSaid : Prop := basketOrdersUptoRow.holds Tryd.pinned (OpenSpec.upto basketOrdersSpec)

end Rows
end Go.Proofs.YtcgangmmehbdoaaDoor
