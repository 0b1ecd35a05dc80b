/- ClockRises: neither the mark nor now ever falls; whatever is heard was above the mark; the mark stays below the greatest tick heard. For every input. -/
import Derived.Test.YtobkgkiomapabaaGreatDoorActs
namespace Go.Proofs.YtobkgkiomapabaaGreatDoor
open Go.RowKit Go.Maps Go.Lib Go.Shelf
set_option linter.unusedVariables false

/-- No source has come farther than most, and the mark lies below it. -/
def Inv (c : Ck) (most : Int) : Prop := (∀ s x, c.src s = some x → x.1 ≤ most) ∧ (0 ≤ c.mark → c.mark < most)

theorem Inv.rose {c c' : Ck} {most : Int} (h : Inv c most) (h0 : 0 ≤ c.slack) (hr : Rose c c') : Inv c' most ∧ c.mark ≤ c'.mark ∧ c.now ≤ c'.now ∧ c'.now = c.now := by
  obtain ⟨m, any, ht, rfl⟩ := hr
  rcases ht with ⟨rfl, _, _⟩ | ⟨rfl, ⟨s, x, hs, _, rfl⟩, _⟩
  · exact ⟨⟨h.1, fun hz => h.2 (by simpa using hz)⟩, by simp, Int.le_refl _, rfl⟩
  · have := h.1 s x hs
    refine ⟨⟨h.1, fun hz => ?_⟩, by simp; omega, Int.le_refl _, rfl⟩
    have h2 := h.2
    simp only [if_true] at hz ⊢
    omega

theorem Inv.ticked {c c' : Ck} {most now : Int} (h : Inv c most) (h0 : 0 ≤ c.slack) (hr : Ticked c now c') : Inv c' most ∧ c.mark ≤ c'.mark ∧ c.now ≤ c'.now := by
  have := Inv.rose (c := { c with now := max c.now (bnd now) }) (most := most) ⟨h.1, h.2⟩ h0 hr
  refine ⟨this.1, this.2.1, ?_⟩
  have h3 := this.2.2.1
  simp only at h3
  omega

theorem Rose.same {c c' : Ck} (h : Rose c c') : c'.slack = c.slack ∧ c'.idle = c.idle ∧ c'.now = c.now ∧ c'.src = c.src ∧ c.mark ≤ c'.mark := by
  obtain ⟨m, any, _, rfl⟩ := h
  refine ⟨rfl, rfl, rfl, rfl, ?_⟩
  cases any <;> simp
  omega
theorem Ticked.same {c c' : Ck} {now : Int} (h : Ticked c now c') : c'.slack = c.slack ∧ c'.idle = c.idle ∧ c'.now = max c.now (bnd now) ∧ c'.src = c.src ∧ c.mark ≤ c'.mark := Rose.same h

theorem Inv.heard {c : Ck} {most at_ : Int} {s : ByteArray} (h : Inv c most) (h0 : 0 ≤ at_) : Inv (Heard' c s at_) (max most at_) := by
  refine ⟨fun k x hx => ?_, fun hz => by have := h.2 hz; show c.mark < _; omega⟩
  simp only [Heard', put] at hx
  split at hx
  · cases hx
    show max _ at_ ≤ _
    cases hc : c.src s.data.toList with
    | none => simp; omega
    | some y => have := h.1 _ y hc; simp; omega
  · have := h.1 k x hx
    omega

theorem Inv.hears {c c' : Ck} {most at_ now : Int} {s : ByteArray} {res : Bool} (h : Inv c most) (h0 : 0 ≤ c.slack) (hr : Hears c s at_ now res c') :
    Inv c' (if res then max most at_ else most) ∧ c.mark ≤ c'.mark ∧ c.now ≤ c'.now ∧ (res = true → c.mark < at_ ∧ 0 ≤ at_ ∧ at_ ≤ 1099511627776) := by
  obtain ⟨c1, ht, hc⟩ := hr
  obtain ⟨i1, m1, n1⟩ := h.ticked h0 ht
  have hs := ht.same
  rcases hc with ⟨rfl, rfl, _⟩ | ⟨rfl, hf, hro⟩
  · exact ⟨i1, m1, n1, fun h => by cases h⟩
  · have i2 := (i1.heard (s := s) (at_ := at_) hf.2.1).rose (by show 0 ≤ c1.slack; rw [hs.1]; exact h0) hro
    have e1 := hro.same
    refine ⟨i2.1, ?_, ?_, fun _ => ⟨?_, hf.2.1, hf.2.2.1⟩⟩
    · have : c1.mark ≤ c'.mark := e1.2.2.2.2
      omega
    · have : c'.now = c1.now := e1.2.2.1
      omega
    · have := hf.2.2.2; omega


end Go.Proofs.YtobkgkiomapabaaGreatDoor
