/-
  NARROWER THAN 'FOR EVERY INPUT', by the rows' own cells (each row's printed sentence says how): CrowdTastes: laid · CrowdFades: laid · CrowdSums: laid · CrowdTags: laid · CrowdTells: laid · CrowdApplies: laid · CrowdMakers: laid · CrowdApart: laid.
  DERIVED. THE GIVEN ROWS OF THIS SEAT. 8 by the template 'for every input the law returns true; each argument reads behind the call as it read before'; 0 by the template 'total and deterministic' (their statements: YtnkglbiakjnfjaaDoorTotals.lean).
  GIVEN WITH THE SEED: the statements are not yours to turn. If you find one false, say at which input.
  Laid BY PROGRAM, IN A SANDBOX (cutbox-rows.mjs): the forced cells as the released guide's own fill.sh prints them over the translation e9eaed83698c7994… (all of the seat's roots in one cut). By AI agents, Wed Nov 11 2026. No macro, syntax, notation, axiom, sorry.
-/
import Derived.Test.YtnkglbiakjnfjaaDoorChecked
import GoSem.PinnedTables
import GoSem.Claim
import GoSem.ClaimJoined
import GoSem.ClaimMapViews
import Derived.JoinedTies
import Derived.KernelRfl
namespace Go.Proofs.YtnkglbiakjnfjaaDoor
/- THE CELL 'sum', in the pinned program and in every row, IS THE sha256 OF THE DUMP (.gsa) THAT YtnkglbiakjnfjaaDoorProg.lean LOADS. Nothing in Lean hashes anything: it is a label: what it is worth is what the hold of that sum in a sandbox is worth. -/
noncomputable def Tryd.pinned : Pinned := { name := "ytnkglbiakjnfjaadoor", sum := "e9eaed83698c79944f32d5d0b73cb6c1d033a1c331ebc261de8c63ba18a1fd55", checked := Tryd.checked }
namespace Rows
def none {H : Type} : Left H := { results := [], args := [] }

/- WHAT THE LISTED PACKAGE-LEVEL VARIABLES READ AS WHEN THE CALL BEGINS. Each datum BY PROGRAM (the guide's laid-datum.mjs) off the statement by which the dump's own 'gosem.cut.vars' lays the variable. In a bare row this is a premise. The card (YtnkglbiakjnfjaaDoorCards.lean) ties it to the program's text. -/
def laid_unicode_utf8_acceptRanges {H : Type} : DataW H := .agg [.agg [.lit (.int .u8 128), .lit (.int .u8 191)], .agg [.lit (.int .u8 160), .lit (.int .u8 191)], .agg [.lit (.int .u8 128), .lit (.int .u8 159)], .agg [.lit (.int .u8 144), .lit (.int .u8 191)], .agg [.lit (.int .u8 128), .lit (.int .u8 143)], .agg [.lit (.int .u8 0), .lit (.int .u8 0)], .agg [.lit (.int .u8 0), .lit (.int .u8 0)], .agg [.lit (.int .u8 0), .lit (.int .u8 0)], .agg [.lit (.int .u8 0), .lit (.int .u8 0)], .agg [.lit (.int .u8 0), .lit (.int .u8 0)], .agg [.lit (.int .u8 0), .lit (.int .u8 0)], .agg [.lit (.int .u8 0), .lit (.int .u8 0)], .agg [.lit (.int .u8 0), .lit (.int .u8 0)], .agg [.lit (.int .u8 0), .lit (.int .u8 0)], .agg [.lit (.int .u8 0), .lit (.int .u8 0)], .agg [.lit (.int .u8 0), .lit (.int .u8 0)]]
/-- One of Go's own tables, pinned by name: the form's constant. -/
def laid_unicode_utf8_first : DataW Unit := Go.Pinned.utf8First

/-- 'ciceronelaw16.CrowdTastes': WHATEVER THE INPUT: true; the input reads as it did. -/
def crowdTastesSpec : ChangeSpec := { name := "crowdTastes", fn := fun _ => fun
  | [d1, d2, d3, d4] => { results := [.lit (.bool true)], args := [d1, d2, d3, d4] }
  | _ => none }
def crowdTastesRow : OpenClaim := { program := "ytnkglbiakjnfjaadoor", sum := "e9eaed83698c79944f32d5d0b73cb6c1d033a1c331ebc261de8c63ba18a1fd55", func := "cicerone/ciceronelaw16.CrowdTastes", spec := "crowdTastes", inPlace := ["internal/bytealg.IndexByteString", "internal/bytealg.IndexString", "internal/bytealg.CountString", "internal/bytealg.abigen_runtime_cmpstring"], unfollowed := true, recurses := true, named := ["internal/bytealg.MaxLen", "unicode/utf8.first", "unicode/utf8.acceptRanges"], plainKeys := false, apart := false, laid := [("unicode/utf8.acceptRanges", laid_unicode_utf8_acceptRanges), ("unicode/utf8.first", laid_unicode_utf8_first)] }
def CrowdTastesSaid : Prop := crowdTastesRow.holds Tryd.pinned (OpenSpec.ofChange crowdTastesSpec)

/-- ITS FALSE NEIGHBOUR: 'it returns false'. Refute it at one input. -/
def crowdTastesWrong : ChangeSpec := { name := "crowdTastes", fn := fun _ => fun
  | [d1, d2, d3, d4] => { results := [.lit (.bool false)], args := [d1, d2, d3, d4] }
  | _ => none }
def CrowdTastesWrongFalsely : Prop := crowdTastesRow.holds Tryd.pinned (OpenSpec.ofChange crowdTastesWrong)

/-- 'ciceronelaw16.CrowdFades': WHATEVER THE INPUT: true; the input reads as it did. -/
def crowdFadesSpec : ChangeSpec := { name := "crowdFades", fn := fun _ => fun
  | [d1, d2, d3, d4, d5] => { results := [.lit (.bool true)], args := [d1, d2, d3, d4, d5] }
  | _ => none }
def crowdFadesRow : OpenClaim := { program := "ytnkglbiakjnfjaadoor", sum := "e9eaed83698c79944f32d5d0b73cb6c1d033a1c331ebc261de8c63ba18a1fd55", func := "cicerone/ciceronelaw16.CrowdFades", spec := "crowdFades", inPlace := ["internal/bytealg.IndexByteString", "internal/bytealg.IndexString", "internal/bytealg.CountString", "internal/bytealg.abigen_runtime_cmpstring"], unfollowed := true, recurses := true, named := ["internal/bytealg.MaxLen", "unicode/utf8.first", "unicode/utf8.acceptRanges"], plainKeys := false, apart := false, laid := [("unicode/utf8.acceptRanges", laid_unicode_utf8_acceptRanges), ("unicode/utf8.first", laid_unicode_utf8_first)] }
def CrowdFadesSaid : Prop := crowdFadesRow.holds Tryd.pinned (OpenSpec.ofChange crowdFadesSpec)

/-- ITS FALSE NEIGHBOUR: 'it returns false'. Refute it at one input. -/
def crowdFadesWrong : ChangeSpec := { name := "crowdFades", fn := fun _ => fun
  | [d1, d2, d3, d4, d5] => { results := [.lit (.bool false)], args := [d1, d2, d3, d4, d5] }
  | _ => none }
def CrowdFadesWrongFalsely : Prop := crowdFadesRow.holds Tryd.pinned (OpenSpec.ofChange crowdFadesWrong)

/-- 'ciceronelaw16.CrowdSums': WHATEVER THE INPUT: true; the input reads as it did. -/
def crowdSumsSpec : ChangeSpec := { name := "crowdSums", fn := fun _ => fun
  | [d1, d2, d3, d4, d5] => { results := [.lit (.bool true)], args := [d1, d2, d3, d4, d5] }
  | _ => none }
def crowdSumsRow : OpenClaim := { program := "ytnkglbiakjnfjaadoor", sum := "e9eaed83698c79944f32d5d0b73cb6c1d033a1c331ebc261de8c63ba18a1fd55", func := "cicerone/ciceronelaw16.CrowdSums", spec := "crowdSums", inPlace := ["internal/bytealg.IndexByteString", "internal/bytealg.IndexString", "internal/bytealg.CountString", "internal/bytealg.abigen_runtime_cmpstring"], unfollowed := true, recurses := true, named := ["internal/bytealg.MaxLen", "unicode/utf8.first", "unicode/utf8.acceptRanges"], plainKeys := false, apart := false, laid := [("unicode/utf8.acceptRanges", laid_unicode_utf8_acceptRanges), ("unicode/utf8.first", laid_unicode_utf8_first)] }
def CrowdSumsSaid : Prop := crowdSumsRow.holds Tryd.pinned (OpenSpec.ofChange crowdSumsSpec)

/-- ITS FALSE NEIGHBOUR: 'it returns false'. Refute it at one input. -/
def crowdSumsWrong : ChangeSpec := { name := "crowdSums", fn := fun _ => fun
  | [d1, d2, d3, d4, d5] => { results := [.lit (.bool false)], args := [d1, d2, d3, d4, d5] }
  | _ => none }
def CrowdSumsWrongFalsely : Prop := crowdSumsRow.holds Tryd.pinned (OpenSpec.ofChange crowdSumsWrong)

/-- 'ciceronelaw16.CrowdTags': WHATEVER THE INPUT: true; the input reads as it did. -/
def crowdTagsSpec : ChangeSpec := { name := "crowdTags", fn := fun _ => fun
  | [d1, d2, d3, d4] => { results := [.lit (.bool true)], args := [d1, d2, d3, d4] }
  | _ => none }
def crowdTagsRow : OpenClaim := { program := "ytnkglbiakjnfjaadoor", sum := "e9eaed83698c79944f32d5d0b73cb6c1d033a1c331ebc261de8c63ba18a1fd55", func := "cicerone/ciceronelaw16.CrowdTags", spec := "crowdTags", inPlace := ["internal/bytealg.IndexByteString", "internal/bytealg.IndexString", "internal/bytealg.CountString", "internal/bytealg.abigen_runtime_cmpstring"], unfollowed := true, recurses := true, named := ["internal/bytealg.MaxLen", "unicode/utf8.first", "unicode/utf8.acceptRanges"], plainKeys := false, apart := false, laid := [("unicode/utf8.acceptRanges", laid_unicode_utf8_acceptRanges), ("unicode/utf8.first", laid_unicode_utf8_first)] }
def CrowdTagsSaid : Prop := crowdTagsRow.holds Tryd.pinned (OpenSpec.ofChange crowdTagsSpec)

/-- ITS FALSE NEIGHBOUR: 'it returns false'. Refute it at one input. -/
def crowdTagsWrong : ChangeSpec := { name := "crowdTags", fn := fun _ => fun
  | [d1, d2, d3, d4] => { results := [.lit (.bool false)], args := [d1, d2, d3, d4] }
  | _ => none }
def CrowdTagsWrongFalsely : Prop := crowdTagsRow.holds Tryd.pinned (OpenSpec.ofChange crowdTagsWrong)

/-- 'ciceronelaw16.CrowdTells': WHATEVER THE INPUT: true; the input reads as it did. -/
def crowdTellsSpec : ChangeSpec := { name := "crowdTells", fn := fun _ => fun
  | [d1, d2, d3, d4] => { results := [.lit (.bool true)], args := [d1, d2, d3, d4] }
  | _ => none }
def crowdTellsRow : OpenClaim := { program := "ytnkglbiakjnfjaadoor", sum := "e9eaed83698c79944f32d5d0b73cb6c1d033a1c331ebc261de8c63ba18a1fd55", func := "cicerone/ciceronelaw16.CrowdTells", spec := "crowdTells", inPlace := ["internal/bytealg.IndexByteString", "internal/bytealg.IndexString", "internal/bytealg.CountString", "internal/bytealg.abigen_runtime_cmpstring"], unfollowed := true, recurses := true, named := ["internal/bytealg.MaxLen", "unicode/utf8.first", "unicode/utf8.acceptRanges"], plainKeys := false, apart := false, laid := [("unicode/utf8.acceptRanges", laid_unicode_utf8_acceptRanges), ("unicode/utf8.first", laid_unicode_utf8_first)] }
def CrowdTellsSaid : Prop := crowdTellsRow.holds Tryd.pinned (OpenSpec.ofChange crowdTellsSpec)

/-- ITS FALSE NEIGHBOUR: 'it returns false'. Refute it at one input. -/
def crowdTellsWrong : ChangeSpec := { name := "crowdTells", fn := fun _ => fun
  | [d1, d2, d3, d4] => { results := [.lit (.bool false)], args := [d1, d2, d3, d4] }
  | _ => none }
def CrowdTellsWrongFalsely : Prop := crowdTellsRow.holds Tryd.pinned (OpenSpec.ofChange crowdTellsWrong)

/-- 'ciceronelaw16.CrowdApplies': WHATEVER THE INPUT: true; the input reads as it did. -/
def crowdAppliesSpec : ChangeSpec := { name := "crowdApplies", fn := fun _ => fun
  | [d1, d2, d3] => { results := [.lit (.bool true)], args := [d1, d2, d3] }
  | _ => none }
def crowdAppliesRow : OpenClaim := { program := "ytnkglbiakjnfjaadoor", sum := "e9eaed83698c79944f32d5d0b73cb6c1d033a1c331ebc261de8c63ba18a1fd55", func := "cicerone/ciceronelaw16.CrowdApplies", spec := "crowdApplies", inPlace := ["internal/bytealg.IndexByteString", "internal/bytealg.IndexString", "internal/bytealg.CountString", "internal/bytealg.abigen_runtime_cmpstring"], unfollowed := true, recurses := true, named := ["internal/bytealg.MaxLen", "unicode/utf8.first", "unicode/utf8.acceptRanges"], plainKeys := false, apart := false, laid := [("unicode/utf8.acceptRanges", laid_unicode_utf8_acceptRanges), ("unicode/utf8.first", laid_unicode_utf8_first)] }
def CrowdAppliesSaid : Prop := crowdAppliesRow.holds Tryd.pinned (OpenSpec.ofChange crowdAppliesSpec)

/-- ITS FALSE NEIGHBOUR: 'it returns false'. Refute it at one input. -/
def crowdAppliesWrong : ChangeSpec := { name := "crowdApplies", fn := fun _ => fun
  | [d1, d2, d3] => { results := [.lit (.bool false)], args := [d1, d2, d3] }
  | _ => none }
def CrowdAppliesWrongFalsely : Prop := crowdAppliesRow.holds Tryd.pinned (OpenSpec.ofChange crowdAppliesWrong)

/-- 'ciceronelaw16.CrowdMakers': WHATEVER THE INPUT: true; the input reads as it did. -/
def crowdMakersSpec : ChangeSpec := { name := "crowdMakers", fn := fun _ => fun
  | [d1, d2, d3] => { results := [.lit (.bool true)], args := [d1, d2, d3] }
  | _ => none }
def crowdMakersRow : OpenClaim := { program := "ytnkglbiakjnfjaadoor", sum := "e9eaed83698c79944f32d5d0b73cb6c1d033a1c331ebc261de8c63ba18a1fd55", func := "cicerone/ciceronelaw16.CrowdMakers", spec := "crowdMakers", inPlace := ["internal/bytealg.IndexByteString", "internal/bytealg.IndexString", "internal/bytealg.CountString", "internal/bytealg.abigen_runtime_cmpstring"], unfollowed := true, recurses := true, named := ["internal/bytealg.MaxLen", "unicode/utf8.first", "unicode/utf8.acceptRanges"], plainKeys := false, apart := false, laid := [("unicode/utf8.acceptRanges", laid_unicode_utf8_acceptRanges), ("unicode/utf8.first", laid_unicode_utf8_first)] }
def CrowdMakersSaid : Prop := crowdMakersRow.holds Tryd.pinned (OpenSpec.ofChange crowdMakersSpec)

/-- ITS FALSE NEIGHBOUR: 'it returns false'. Refute it at one input. -/
def crowdMakersWrong : ChangeSpec := { name := "crowdMakers", fn := fun _ => fun
  | [d1, d2, d3] => { results := [.lit (.bool false)], args := [d1, d2, d3] }
  | _ => none }
def CrowdMakersWrongFalsely : Prop := crowdMakersRow.holds Tryd.pinned (OpenSpec.ofChange crowdMakersWrong)

/-- 'ciceronelaw16.CrowdApart': WHATEVER THE INPUT: true; the input reads as it did. -/
def crowdApartSpec : ChangeSpec := { name := "crowdApart", fn := fun _ => fun
  | [d1, d2, d3, d4, d5] => { results := [.lit (.bool true)], args := [d1, d2, d3, d4, d5] }
  | _ => none }
def crowdApartRow : OpenClaim := { program := "ytnkglbiakjnfjaadoor", sum := "e9eaed83698c79944f32d5d0b73cb6c1d033a1c331ebc261de8c63ba18a1fd55", func := "cicerone/ciceronelaw16.CrowdApart", spec := "crowdApart", inPlace := ["internal/bytealg.IndexByteString", "internal/bytealg.IndexString", "internal/bytealg.CountString", "internal/bytealg.abigen_runtime_cmpstring"], unfollowed := true, recurses := true, named := ["internal/bytealg.MaxLen", "unicode/utf8.first", "unicode/utf8.acceptRanges"], plainKeys := false, apart := false, laid := [("unicode/utf8.acceptRanges", laid_unicode_utf8_acceptRanges), ("unicode/utf8.first", laid_unicode_utf8_first)] }
def CrowdApartSaid : Prop := crowdApartRow.holds Tryd.pinned (OpenSpec.ofChange crowdApartSpec)

/-- ITS FALSE NEIGHBOUR: 'it returns false'. Refute it at one input. -/
def crowdApartWrong : ChangeSpec := { name := "crowdApart", fn := fun _ => fun
  | [d1, d2, d3, d4, d5] => { results := [.lit (.bool false)], args := [d1, d2, d3, d4, d5] }
  | _ => none }
def CrowdApartWrongFalsely : Prop := crowdApartRow.holds Tryd.pinned (OpenSpec.ofChange crowdApartWrong)

/- THE SECOND FORM. 'bulk': how many values and letters a reading holds, each counted each time it is reached (what is shared counts as often as it is met; a slice's spare places count too). A statement '..UptoSaid' is the law's where the arguments, and the package variables that the reading takes, are together of bulk at most 1048576: NARROWER than '..Said'. Prove '..Said' where nothing that the law and all that it calls make is longer than what came in: it says more and counts as full. Else prove '..UptoSaid'. A law counts once. -/
mutual
def uptoBulk {H : Type} : DataW H → Nat
  | .lit (.string bytes) => bytes.length + 1
  | .lit _ => 1
  | .nil => 1
  | .ptr d => uptoBulk d + 1
  | .slice elems spare => uptoBulkAll elems + uptoBulkAll spare + 1
  | .agg parts => uptoBulkAll parts + 1
  | .iface _ d => uptoBulk d + 1
  | .map entries => uptoBulkEntries entries + 1
  | .held _ => 1
def uptoBulkAll {H : Type} : List (DataW H) → Nat
  | [] => 0
  | d :: r => uptoBulk d + uptoBulkAll r
def uptoBulkEntries {H : Type} : List (Lit × DataW H) → Nat
  | [] => 0
  | x :: r => uptoBulkEntry x + uptoBulkEntries r
def uptoBulkEntry {H : Type} : Lit × DataW H → Nat
  | (.string bytes, d) => bytes.length + uptoBulk d + 1
  | (_, d) => uptoBulk d + 1
 end
def uptoSmall : (H : Type) → List (DataW H) → Bool := fun _ ds => decide (uptoBulkAll ds ≤ 1048576)
def OpenSpec.upto (s : _root_.Go.ChangeSpec) : _root_.Go.OpenSpec := { _root_.Go.OpenSpec.ofChange s with cond := some uptoSmall }

/-- 'ciceronelaw16.CrowdTastes', WHERE WHAT IT READS IS OF BULK AT MOST 1048576: true; the input reads as it did. -/
def crowdTastesUptoRow : OpenClaim := { program := "ytnkglbiakjnfjaadoor", sum := "e9eaed83698c79944f32d5d0b73cb6c1d033a1c331ebc261de8c63ba18a1fd55", func := "cicerone/ciceronelaw16.CrowdTastes", spec := "crowdTastes", inPlace := ["internal/bytealg.IndexByteString", "internal/bytealg.IndexString", "internal/bytealg.CountString", "internal/bytealg.abigen_runtime_cmpstring"], unfollowed := true, recurses := true, named := ["internal/bytealg.MaxLen", "unicode/utf8.first", "unicode/utf8.acceptRanges"], plainKeys := false, apart := false, laid := [("unicode/utf8.acceptRanges", laid_unicode_utf8_acceptRanges), ("unicode/utf8.first", laid_unicode_utf8_first)], narrowed := true }
def CrowdTastesUptoSaid : Prop := crowdTastesUptoRow.holds Tryd.pinned (OpenSpec.upto crowdTastesSpec)

/-- 'ciceronelaw16.CrowdFades', WHERE WHAT IT READS IS OF BULK AT MOST 1048576: true; the input reads as it did. -/
def crowdFadesUptoRow : OpenClaim := { program := "ytnkglbiakjnfjaadoor", sum := "e9eaed83698c79944f32d5d0b73cb6c1d033a1c331ebc261de8c63ba18a1fd55", func := "cicerone/ciceronelaw16.CrowdFades", spec := "crowdFades", inPlace := ["internal/bytealg.IndexByteString", "internal/bytealg.IndexString", "internal/bytealg.CountString", "internal/bytealg.abigen_runtime_cmpstring"], unfollowed := true, recurses := true, named := ["internal/bytealg.MaxLen", "unicode/utf8.first", "unicode/utf8.acceptRanges"], plainKeys := false, apart := false, laid := [("unicode/utf8.acceptRanges", laid_unicode_utf8_acceptRanges), ("unicode/utf8.first", laid_unicode_utf8_first)], narrowed := true }
def CrowdFadesUptoSaid : Prop := crowdFadesUptoRow.holds Tryd.pinned (OpenSpec.upto crowdFadesSpec)

/-- 'ciceronelaw16.CrowdSums', WHERE WHAT IT READS IS OF BULK AT MOST 1048576: true; the input reads as it did. -/
def crowdSumsUptoRow : OpenClaim := { program := "ytnkglbiakjnfjaadoor", sum := "e9eaed83698c79944f32d5d0b73cb6c1d033a1c331ebc261de8c63ba18a1fd55", func := "cicerone/ciceronelaw16.CrowdSums", spec := "crowdSums", inPlace := ["internal/bytealg.IndexByteString", "internal/bytealg.IndexString", "internal/bytealg.CountString", "internal/bytealg.abigen_runtime_cmpstring"], unfollowed := true, recurses := true, named := ["internal/bytealg.MaxLen", "unicode/utf8.first", "unicode/utf8.acceptRanges"], plainKeys := false, apart := false, laid := [("unicode/utf8.acceptRanges", laid_unicode_utf8_acceptRanges), ("unicode/utf8.first", laid_unicode_utf8_first)], narrowed := true }
def CrowdSumsUptoSaid : Prop := crowdSumsUptoRow.holds Tryd.pinned (OpenSpec.upto crowdSumsSpec)

/-- 'ciceronelaw16.CrowdTags', WHERE WHAT IT READS IS OF BULK AT MOST 1048576: true; the input reads as it did. -/
def crowdTagsUptoRow : OpenClaim := { program := "ytnkglbiakjnfjaadoor", sum := "e9eaed83698c79944f32d5d0b73cb6c1d033a1c331ebc261de8c63ba18a1fd55", func := "cicerone/ciceronelaw16.CrowdTags", spec := "crowdTags", inPlace := ["internal/bytealg.IndexByteString", "internal/bytealg.IndexString", "internal/bytealg.CountString", "internal/bytealg.abigen_runtime_cmpstring"], unfollowed := true, recurses := true, named := ["internal/bytealg.MaxLen", "unicode/utf8.first", "unicode/utf8.acceptRanges"], plainKeys := false, apart := false, laid := [("unicode/utf8.acceptRanges", laid_unicode_utf8_acceptRanges), ("unicode/utf8.first", laid_unicode_utf8_first)], narrowed := true }
def CrowdTagsUptoSaid : Prop := crowdTagsUptoRow.holds Tryd.pinned (OpenSpec.upto crowdTagsSpec)

/-- 'ciceronelaw16.CrowdTells', WHERE WHAT IT READS IS OF BULK AT MOST 1048576: true; the input reads as it did. -/
def crowdTellsUptoRow : OpenClaim := { program := "ytnkglbiakjnfjaadoor", sum := "e9eaed83698c79944f32d5d0b73cb6c1d033a1c331ebc261de8c63ba18a1fd55", func := "cicerone/ciceronelaw16.CrowdTells", spec := "crowdTells", inPlace := ["internal/bytealg.IndexByteString", "internal/bytealg.IndexString", "internal/bytealg.CountString", "internal/bytealg.abigen_runtime_cmpstring"], unfollowed := true, recurses := true, named := ["internal/bytealg.MaxLen", "unicode/utf8.first", "unicode/utf8.acceptRanges"], plainKeys := false, apart := false, laid := [("unicode/utf8.acceptRanges", laid_unicode_utf8_acceptRanges), ("unicode/utf8.first", laid_unicode_utf8_first)], narrowed := true }
def CrowdTellsUptoSaid : Prop := crowdTellsUptoRow.holds Tryd.pinned (OpenSpec.upto crowdTellsSpec)

/-- 'ciceronelaw16.CrowdApplies', WHERE WHAT IT READS IS OF BULK AT MOST 1048576: true; the input reads as it did. -/
def crowdAppliesUptoRow : OpenClaim := { program := "ytnkglbiakjnfjaadoor", sum := "e9eaed83698c79944f32d5d0b73cb6c1d033a1c331ebc261de8c63ba18a1fd55", func := "cicerone/ciceronelaw16.CrowdApplies", spec := "crowdApplies", inPlace := ["internal/bytealg.IndexByteString", "internal/bytealg.IndexString", "internal/bytealg.CountString", "internal/bytealg.abigen_runtime_cmpstring"], unfollowed := true, recurses := true, named := ["internal/bytealg.MaxLen", "unicode/utf8.first", "unicode/utf8.acceptRanges"], plainKeys := false, apart := false, laid := [("unicode/utf8.acceptRanges", laid_unicode_utf8_acceptRanges), ("unicode/utf8.first", laid_unicode_utf8_first)], narrowed := true }
def CrowdAppliesUptoSaid : Prop := crowdAppliesUptoRow.holds Tryd.pinned (OpenSpec.upto crowdAppliesSpec)

/-- 'ciceronelaw16.CrowdMakers', WHERE WHAT IT READS IS OF BULK AT MOST 1048576: true; the input reads as it did. -/
def crowdMakersUptoRow : OpenClaim := { program := "ytnkglbiakjnfjaadoor", sum := "e9eaed83698c79944f32d5d0b73cb6c1d033a1c331ebc261de8c63ba18a1fd55", func := "cicerone/ciceronelaw16.CrowdMakers", spec := "crowdMakers", inPlace := ["internal/bytealg.IndexByteString", "internal/bytealg.IndexString", "internal/bytealg.CountString", "internal/bytealg.abigen_runtime_cmpstring"], unfollowed := true, recurses := true, named := ["internal/bytealg.MaxLen", "unicode/utf8.first", "unicode/utf8.acceptRanges"], plainKeys := false, apart := false, laid := [("unicode/utf8.acceptRanges", laid_unicode_utf8_acceptRanges), ("unicode/utf8.first", laid_unicode_utf8_first)], narrowed := true }
def CrowdMakersUptoSaid : Prop := crowdMakersUptoRow.holds Tryd.pinned (OpenSpec.upto crowdMakersSpec)

/-- 'ciceronelaw16.CrowdApart', WHERE WHAT IT READS IS OF BULK AT MOST 1048576: true; the input reads as it did. -/
def crowdApartUptoRow : OpenClaim := { program := "ytnkglbiakjnfjaadoor", sum := "e9eaed83698c79944f32d5d0b73cb6c1d033a1c331ebc261de8c63ba18a1fd55", func := "cicerone/ciceronelaw16.CrowdApart", spec := "crowdApart", inPlace := ["internal/bytealg.IndexByteString", "internal/bytealg.IndexString", "internal/bytealg.CountString", "internal/bytealg.abigen_runtime_cmpstring"], unfollowed := true, recurses := true, named := ["internal/bytealg.MaxLen", "unicode/utf8.first", "unicode/utf8.acceptRanges"], plainKeys := false, apart := false, laid := [("unicode/utf8.acceptRanges", laid_unicode_utf8_acceptRanges), ("unicode/utf8.first", laid_unicode_utf8_first)], narrowed := true }
def CrowdApartUptoSaid : Prop := crowdApartUptoRow.holds Tryd.pinned (OpenSpec.upto crowdApartSpec)

end Rows
end Go.Proofs.YtnkglbiakjnfjaaDoor
