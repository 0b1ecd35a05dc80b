/- The slate: plain, no program in sight. -/
import Derived.Test.YtiaklkfdgnhonaaDoorIdxF
namespace Go.Proofs.YtiaklkfdgnhonaaDoor
open Go.Lib
set_option linter.unusedVariables false

/-- May x be taken behind s? -/
def fitsB (c : Cp) (s : List Ch) (x : Ch) : Bool := decide ((s.length : Int) < c.size) && !(marksP x).any (fullP c (cntM s))
def stepP (c : Cp) (s : List Ch) (x : Ch) : List Ch := if fitsB c s x = true then s ++ [x] else s
/-- Going down the ranking. -/
def downP (c : Cp) (r s : List Ch) : List Ch := r.foldl (stepP c) s
def makeP (c : Cp) (l : List Ch) : List Ch := downP c (rankP l) []

theorem downP_cons (c : Cp) (x : Ch) (r s : List Ch) : downP c (x :: r) s = downP c r (stepP c s x) := rfl
theorem downP_nil (c : Cp) (s : List Ch) : downP c [] s = s := rfl
theorem downP_full (c : Cp) : ∀ (r s : List Ch), c.size ≤ (s.length : Int) → downP c r s = s
  | [], s, _ => rfl
  | x :: r, s, h => by
    have h0 : fitsB c s x = false := by
      unfold fitsB
      rw [decide_eq_false (by omega)]; rfl
    rw [downP_cons]
    unfold stepP
    rw [h0]
    exact downP_full c r s h
theorem fits_not {c : Cp} {s : List Ch} {x : Ch} (h : (marksP x).any (fullP c (cntM s)) = true) : fitsB c s x = false := by
  unfold fitsB; rw [h]; simp
theorem fits_yes {c : Cp} {s : List Ch} {x : Ch} (h0 : ¬ c.size ≤ (s.length : Int)) (h : (marksP x).any (fullP c (cntM s)) = false) : fitsB c s x = true := by
  unfold fitsB; rw [h, decide_eq_true (by omega)]; rfl
theorem downP_app (c : Cp) : ∀ (r q s : List Ch), downP c (r ++ q) s = downP c q (downP c r s) := by
  intro r q s; unfold downP; rw [List.foldl_append]
/-- What was taken stays in front. -/
theorem downP_front (c : Cp) : ∀ (r s : List Ch), ∃ q, downP c r s = s ++ q ∧ q.Sublist r
  | [], s => ⟨[], by simp [downP], List.Sublist.refl _⟩
  | x :: r, s => by
    rw [downP_cons]
    unfold stepP
    cases fitsB c s x
    · obtain ⟨q, h1, h2⟩ := downP_front c r s
      exact ⟨q, by simpa using h1, h2.cons _⟩
    · obtain ⟨q, h1, h2⟩ := downP_front c r (s ++ [x])
      exact ⟨x :: q, by simpa using h1, h2.cons_cons _⟩
theorem makeP_sub (c : Cp) (l : List Ch) : (makeP c l).Sublist (rankP l) := by
  obtain ⟨q, h1, h2⟩ := downP_front c (rankP l) []
  unfold makeP
  rw [h1]
  simpa using h2
theorem makeP_len (c : Cp) (l : List Ch) : (makeP c l).length ≤ l.length := Nat.le_trans (makeP_sub c l).length_le (rankP_len l)

end Go.Proofs.YtiaklkfdgnhonaaDoor
