/- few, made and awake of the laws. -/
import Derived.Test.YtikbckpphkpaiaaDoorCatChg
import Derived.IntWalk
namespace Go.Proofs.YtikbckpphkpaiaaDoor
open Go.Shelf Go.RowKit Go.Maps
set_option linter.unusedVariables false

/-- Texts that a machine can hold. -/
def EvBd (e : Ev) : Prop := e.src.size ≤ 281474976710656 ∧ e.person.size ≤ 281474976710656 ∧ e.item.size ≤ 281474976710656 ∧ e.text.size ≤ 281474976710656
def EvFew (e : Ev) : Prop := e.src.size + e.person.size + e.item.size + e.text.size ≤ 600
theorem EvFew.sh {e : Ev} (h : EvFew e) : EvSh e := by unfold EvFew at h; unfold EvSh; omega


/-- Are all taken, one by one? -/
def madeFrom : List Ev → List Ev → Bool
  | _, [] => true
  | es, e :: r => takesB es e && madeFrom (es ++ [e]) r
def madeB (l : List Ev) : Bool := madeFrom [] l


def eX1 : Ev := ⟨⟨#[115]⟩, 1, 5, 11, ⟨#[]⟩, ⟨#[120]⟩, 3, ⟨#[109, 59]⟩⟩
def eX2 : Ev := ⟨⟨#[115]⟩, 2, 6, 12, ⟨#[]⟩, ⟨#[120]⟩, 7, ⟨#[]⟩⟩
theorem aw1 : takesB [] eX1 = true := by kernel_rfl
theorem aw2 : takesB [eX1] eX2 = true := by kernel_rfl
theorem aw3 : atP [eX1, eX2] ⟨#[120]⟩ 5 = some ⟨⟨#[120]⟩, ⟨#[109]⟩, ⟨#[]⟩, 0, 3, 5, true⟩ := by kernel_rfl
theorem aw4 : atP [eX1, eX2] ⟨#[120]⟩ 4 = none := by kernel_rfl

end Go.Proofs.YtikbckpphkpaiaaDoor
