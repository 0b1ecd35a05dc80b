/- What was heard of whom: the order plays no part. -/
import Derived.Test.YtobkgkiomapabaaGreatDoorSlack
import Derived.Test.YtobkgkiomapabaaGreatDoorHeard
import Derived.Test.YtobkgkiomapabaaGreatDoorSlices
namespace Go.Proofs.YtobkgkiomapabaaGreatDoor
open Go.RowKit Go.Maps Go.Lib Go.Shelf
set_option linter.unusedVariables false

/-- The clock, never idle, has heard just the calls of L. -/
structure HeardAll (c : Ck) (L : List ActD) : Prop where
  idle : c.idle = 0
  low : ∀ x ∈ L, ∃ y, c.src x.name.data.toList = some y ∧ x.at_ ≤ y.1
  top : ∀ s y, c.src s = some y → ∃ x ∈ L, x.name.data.toList = s ∧ x.at_ = y.1
  small : ∀ x ∈ L, x.name.size ≤ 24

theorem nameB_24 {s : ByteArray} (h : nameB s = true) : s.size ≤ 24 := by
  unfold nameB at h
  simp at h
  exact h.1.2

theorem HeardAll.fresh (slack : Int) : HeardAll (fresh slack 0) [] := ⟨show bnd 0 = 0 from by decide, by simp, (fun s y h => by cases h), by simp⟩

theorem HeardAll.step {c c' : Ck} {L : List ActD} {x : ActD} {now : Int} (h : HeardAll c L) (hr : Hears c x.name x.at_ now true c') : HeardAll c' (L ++ [x]) := by
  obtain ⟨c1, ht, hc⟩ := hr
  have t1 := ht.same
  rcases hc with ⟨hf, _, _⟩ | ⟨_, hf, hro⟩
  · cases hf
  · have r1 := hro.same
    have hsrc : c'.src = put c.src x.name.data.toList (max ((c.src x.name.data.toList).getD (0, 0)).1 x.at_, c1.now) := by
      rw [r1.2.2.2.1]
      show put c1.src _ _ = _
      rw [t1.2.2.2.1]
    have h0 := hf.2.1
    refine ⟨?_, fun y hy => ?_, fun s y hs => ?_, fun y hy => ?_⟩
    · rw [r1.2.1]; show c1.idle = 0; rw [t1.2.1]; exact h.idle
    · rw [hsrc]
      rw [List.mem_append, List.mem_singleton] at hy
      by_cases he : y.name.data.toList = x.name.data.toList
      · refine ⟨_, by rw [put, if_pos he], ?_⟩
        rcases hy with hy | rfl
        · obtain ⟨z, hz, hle⟩ := h.low y hy
          rw [he] at hz
          rw [hz]
          simp; omega
        · simp; omega
      · rcases hy with hy | rfl
        · obtain ⟨z, hz, hle⟩ := h.low y hy
          exact ⟨z, by rw [put, if_neg he]; exact hz, hle⟩
        · exact absurd rfl he
    · rw [hsrc, put] at hs
      split at hs
      · rename_i he
        cases hs
        cases hc : c.src x.name.data.toList with
        | none => exact ⟨x, by simp, he.symm, by simp; omega⟩
        | some z =>
          rcases Int.le_total z.1 x.at_ with hle | hle
          · exact ⟨x, by simp, he.symm, by simp; omega⟩
          · obtain ⟨y, hy, hn, ha⟩ := h.top _ z hc
            exact ⟨y, by simp [hy], hn.trans he.symm, by simp; omega⟩
      · obtain ⟨z, hz, hn, ha⟩ := h.top s y hs
        exact ⟨z, by simp [hz], hn, ha⟩
    · rw [List.mem_append, List.mem_singleton] at hy
      rcases hy with hy | rfl
      · exact h.small y hy
      · exact nameB_24 hf.1

theorem HeardAll.same {c d : Ck} {L M : List ActD} (h : HeardAll c L) (k : HeardAll d M) (hm : ∀ x, x ∈ L ↔ x ∈ M) (s : List UInt8) : (c.src s).map Prod.fst = (d.src s).map Prod.fst := by
  cases hc : c.src s with
  | none =>
    cases hd : d.src s with
    | none => rfl
    | some y =>
      obtain ⟨x, hx, hn, _⟩ := k.top s y hd
      obtain ⟨z, hz, _⟩ := h.low x ((hm x).2 hx)
      rw [hn, hc] at hz
      cases hz
  | some y =>
    obtain ⟨x, hx, hn, ha⟩ := h.top s y hc
    obtain ⟨z, hz, hle⟩ := k.low x ((hm x).1 hx)
    rw [hn] at hz
    rw [hz]
    obtain ⟨x', hx', hn', ha'⟩ := k.top s z hz
    obtain ⟨y', hy', hle'⟩ := h.low x' ((hm x').2 hx')
    rw [hn', hc] at hy'
    cases hy'
    simp; omega

theorem heard_same {c d : Ck} {s : List UInt8} (h : (c.src s).map Prod.fst = (d.src s).map Prod.fst) : heardOf c s = heardOf d s := by
  unfold heardOf
  cases hc : c.src s <;> cases hd : d.src s <;> rw [hc, hd] at h <;> simp at h
  exact h

/-- A call's cells. -/
def actC (x : ActD) : List Value := [.int .i64 x.kind, .string x.name, .int .i64 x.at_, .int .i64 x.now]
theorem actC_len (x : ActD) : (actC x).length = 4 := rfl
theorem actC_one : ∀ (l : List ActD), ∀ u ∈ l.flatMap actC, u.oneCell' = true := by
  intro l u hu
  obtain ⟨x, _, hx⟩ := List.mem_flatMap.1 hu
  simp [actC] at hx
  rcases hx with rfl | rfl | rfl | rfl <;> rfl

theorem row_of_acts {w : World} {B : Nat} {a : Option Addr} {l : List ActD} (h : ActsAt w B a l) : RowIn w B 4 a l.length (l.flatMap actC) := by
  refine ⟨flat_len actC 4 actC_len l, ?_⟩
  rcases Nat.eq_zero_or_pos l.length with h0 | h0
  · exact Or.inl h0
  · obtain ⟨b, off, e, hb, _⟩ := h 0 (l[0]'h0) (List.getElem?_eq_getElem h0)
    refine Or.inr ⟨b, off, e, hb, fun j u hu => ?_⟩
    have hj : j < l.length * 4 := by
      have := (List.getElem?_eq_some_iff.1 hu).1
      rw [flat_len actC 4 actC_len] at this
      exact this
    have hi : j / 4 < l.length := by omega
    have hx := List.getElem?_eq_getElem hi
    obtain ⟨b', off', e', _, d0, d1, d2, d3⟩ := h (j / 4) _ hx
    rw [e] at e'
    cases e'
    have hg := flat_get actC 4 actC_len l (j / 4) (j % 4) _ hx (by omega)
    rw [show j / 4 * 4 + j % 4 = j from by omega, hu] at hg
    rcases (show j % 4 = 0 ∨ j % 4 = 1 ∨ j % 4 = 2 ∨ j % 4 = 3 from by omega) with h4 | h4 | h4 | h4 <;> rw [h4] at hg <;> simp [actC] at hg <;> subst hg
    · rw [show off + j = off + j / 4 * 4 from by omega]; exact d0
    · rw [show off + j = off + j / 4 * 4 + 1 from by omega]; exact d1
    · rw [show off + j = off + j / 4 * 4 + 2 from by omega]; exact d2
    · rw [show off + j = off + j / 4 * 4 + 3 from by omega]; exact d3

theorem acts_of_row {w : World} {B n : Nat} {a : Option Addr} {l : List ActD} (h : RowIn w B 4 a n (l.flatMap actC)) (hn : n = l.length) : ActsAt w B a l := by
  intro i x hx
  have hi := (List.getElem?_eq_some_iff.1 hx).1
  obtain ⟨b, off, e, hb, hc⟩ := h.at (by omega)
  refine ⟨b, off, e, hb, ?_, ?_, ?_, ?_⟩
  · exact hc (i * 4 + 0) _ (flat_get actC 4 actC_len l i 0 x hx (by omega))
  · rw [Nat.add_assoc]; exact hc (i * 4 + 1) _ (flat_get actC 4 actC_len l i 1 x hx (by omega))
  · rw [Nat.add_assoc]; exact hc (i * 4 + 2) _ (flat_get actC 4 actC_len l i 2 x hx (by omega))
  · rw [Nat.add_assoc]; exact hc (i * 4 + 3) _ (flat_get actC 4 actC_len l i 3 x hx (by omega))

end Go.Proofs.YtobkgkiomapabaaGreatDoor
